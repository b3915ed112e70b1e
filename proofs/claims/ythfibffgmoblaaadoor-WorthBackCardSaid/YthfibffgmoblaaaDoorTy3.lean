/- What both readers tell. No conditions but those in each theorem. -/
import Derived.Test.YthfibffgmoblaaaDoorTy1
namespace Go.Proofs.YthfibffgmoblaaaDoor.Di
open Go Go.RowKit Go.Proofs Go.Proofs.YthfibffgmoblaaaDoor Go.Proofs.YthfibffgmoblaaaDoorW.PrintWords Go.Proofs.YthfibffgmoblaaaDoorW.PrintLast Go.Proofs.YthfibffgmoblaaaDoorW.PrintMore
set_option linter.unusedSimpArgs false
set_option linter.unusedVariables false
theorem all7 {a0 a1 a2 a3 a4 a5 a6 : Int} (h0 : -99 ≤ a0 ∧ a0 ≤ 99) (h1 : -99 ≤ a1 ∧ a1 ≤ 99) (h2 : -99 ≤ a2 ∧ a2 ≤ 99) (h3 : -99 ≤ a3 ∧ a3 ≤ 99) (h4 : -99 ≤ a4 ∧ a4 ≤ 99) (h5 : -99 ≤ a5 ∧ a5 ≤ 99) (h6 : -99 ≤ a6 ∧ a6 ≤ 99) : allR [a0, a1, a2, a3, a4, a5, a6] = true := by
  simp [allR, h0, h1, h2, h3, h4, h5, h6]
theorem all7_of {a0 a1 a2 a3 a4 a5 a6 : Int} (h : allR [a0, a1, a2, a3, a4, a5, a6] = true) : (-99 ≤ a0 ∧ a0 ≤ 99) ∧ (-99 ≤ a1 ∧ a1 ≤ 99) ∧ (-99 ≤ a2 ∧ a2 ≤ 99) ∧ (-99 ≤ a3 ∧ a3 ≤ 99) ∧ (-99 ≤ a4 ∧ a4 ≤ 99) ∧ (-99 ≤ a5 ∧ a5 ≤ 99) ∧ (-99 ≤ a6 ∧ a6 ≤ 99) := by
  simpa [allR] using h

end Go.Proofs.YthfibffgmoblaaaDoor.Di
