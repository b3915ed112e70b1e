/- Worths: what comes of right ones without a tag. No conditions beyond those in each theorem. -/
import Derived.Test.YthfibffgmoblaaaDoorWo5
import Derived.Test.YthfibffgmoblaaaDoorWo1d
namespace Go.Proofs.YthfibffgmoblaaaDoor.Wo
open Go.RowKit Go.Proofs.YthfibffgmoblaaaDoor Go.Proofs.YthfibffgmoblaaaDoor.Fr Go.Proofs.YthfibffgmoblaaaDoor.Tx Go.Proofs.YthfibffgmoblaaaDoor.Wh Go.Proofs.YthfibffgmoblaaaDoor.Di Go.Proofs.YthfibffgmoblaaaDoor.PB Go.Proofs.YthfibffgmoblaaaDoor.PC Go.Proofs.YthfibffgmoblaaaDoor.PD Go.Proofs.YthfibffgmoblaaaDoor.PO Go.Proofs.YthfibffgmoblaaaDoor.PR Go.Proofs.YthfibffgmoblaaaDoor.PS Go.Proofs.YthfibffgmoblaaaDoor.PT Go.Proofs.YthfibffgmoblaaaDoor.PX Go.Proofs.YthfibffgmoblaaaDoorW.PrintWords Go.Proofs.YthfibffgmoblaaaDoorW.PrintLast Go.Proofs.YthfibffgmoblaaaDoorW.PrintMore
set_option linter.unusedVariables false
theorem div_ok {a b : W11} (ha : Ok a) (hb : Ok b) : ∃ r, DivS a.1 a.2.1 a.2.2.1 b.1 b.2.1 b.2.2.1 r ∧ Ev (fun k => worth_Div.f k a.1 a.2.1 a.2.2.1 a.2.2.2.1 a.2.2.2.2.1 a.2.2.2.2.2.1 a.2.2.2.2.2.2.1 a.2.2.2.2.2.2.2.1 a.2.2.2.2.2.2.2.2.1 a.2.2.2.2.2.2.2.2.2.1 a.2.2.2.2.2.2.2.2.2.2 b.1 b.2.1 b.2.2.1 b.2.2.2.1 b.2.2.2.2.1 b.2.2.2.2.2.1 b.2.2.2.2.2.2.1 b.2.2.2.2.2.2.2.1 b.2.2.2.2.2.2.2.2.1 b.2.2.2.2.2.2.2.2.2.1 b.2.2.2.2.2.2.2.2.2.2) (comb r (subD a b)) := by
  obtain ⟨r, s, e⟩ := WDiv_ev a b ha.o hb.o
  rw [show mayW a b (comb r (subD a b)) = comb r (subD a b) from (if_pos ha.rt).trans ((if_pos hb.rt).trans (if_pos ⟨ha.t, hb.t⟩))] at e
  exact ⟨r, s, e⟩
end Go.Proofs.YthfibffgmoblaaaDoor.Wo
