/- WholeParts' plain law: what it says is shown in the walk itself (Wp3). No conditions. -/
import Derived.Test.YtbfajaeghiodnaaPWholePartsx1
namespace Go.Proofs.Ytbfajaeghiodnaa.Pure
open Go.RowKit Go.Proofs.Ytbfajaeghiodnaa.PWholeParts
theorem WholeParts : drachmlaw01_WholeParts.Pure := trivial
end Go.Proofs.Ytbfajaeghiodnaa.Pure
