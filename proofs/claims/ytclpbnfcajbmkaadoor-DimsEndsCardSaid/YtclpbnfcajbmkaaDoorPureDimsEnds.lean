/- DimsEnds' plain law: what it says is shown in the walk itself (De). No conditions. -/
import Derived.Test.YtclpbnfcajbmkaaDoorPDimsEndsx1
namespace Go.Proofs.YtclpbnfcajbmkaaDoor.Pure
open Go.RowKit Go.Proofs.YtclpbnfcajbmkaaDoor.PDimsEnds
theorem DimsEnds : drachmlaw03_DimsEnds.Pure := trivial
end Go.Proofs.YtclpbnfcajbmkaaDoor.Pure
