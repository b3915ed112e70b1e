/- DimsEach' plain law: what it says is shown in the walk itself (Df). No conditions. -/
import Derived.Test.YtclpbnfcajbmkaaDoorPDimsEachx1
namespace Go.Proofs.YtclpbnfcajbmkaaDoor.Pure
open Go.RowKit Go.Proofs.YtclpbnfcajbmkaaDoor.PDimsEach
theorem DimsEach : drachmlaw03_DimsEach.Pure := trivial
end Go.Proofs.YtclpbnfcajbmkaaDoor.Pure
