/- Worths: what comes of right ones without a tag. No conditions beyond those in each theorem. -/
import Derived.Test.YthfibffgmoblaaaDoorWo5
import Derived.Test.YthfibffgmoblaaaDoorWo1p
namespace Go.Proofs.YthfibffgmoblaaaDoor.Wo
open Go.RowKit Go.Proofs.YthfibffgmoblaaaDoor Go.Proofs.YthfibffgmoblaaaDoor.Fr Go.Proofs.YthfibffgmoblaaaDoor.Tx Go.Proofs.YthfibffgmoblaaaDoor.Wh Go.Proofs.YthfibffgmoblaaaDoor.Di Go.Proofs.YthfibffgmoblaaaDoor.PB Go.Proofs.YthfibffgmoblaaaDoor.PC Go.Proofs.YthfibffgmoblaaaDoor.PD Go.Proofs.YthfibffgmoblaaaDoor.PO Go.Proofs.YthfibffgmoblaaaDoor.PR Go.Proofs.YthfibffgmoblaaaDoor.PS Go.Proofs.YthfibffgmoblaaaDoor.PT Go.Proofs.YthfibffgmoblaaaDoor.PX Go.Proofs.YthfibffgmoblaaaDoorW.PrintWords Go.Proofs.YthfibffgmoblaaaDoorW.PrintLast Go.Proofs.YthfibffgmoblaaaDoorW.PrintMore
set_option linter.unusedVariables false
theorem pow_ok {a : W11} (ha : Ok a) (n : Int) (hn : -99 ≤ n ∧ n ≤ 99) : ∃ r, PowS a.1 a.2.1 a.2.2.1 n r ∧ Ev (fun k => worth_Pow.f k a.1 a.2.1 a.2.2.1 a.2.2.2.1 a.2.2.2.2.1 a.2.2.2.2.2.1 a.2.2.2.2.2.2.1 a.2.2.2.2.2.2.2.1 a.2.2.2.2.2.2.2.2.1 a.2.2.2.2.2.2.2.2.2.1 a.2.2.2.2.2.2.2.2.2.2 n) (comb r (timD a n)) := by
  obtain ⟨r, s, e⟩ := WPow_ev a n ha.o
  rw [show powW a n (comb r (timD a n)) = comb r (timD a n) from (if_neg (by omega)).trans ((if_pos ha.rt).trans (if_pos ha.t))] at e
  exact ⟨r, s, e⟩
end Go.Proofs.YthfibffgmoblaaaDoor.Wo
