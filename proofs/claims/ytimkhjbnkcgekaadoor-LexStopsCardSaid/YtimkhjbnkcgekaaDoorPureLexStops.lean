/- LexStops' plain law: what it says is shown in the walk itself (Df). No conditions. -/
import Derived.Test.YtimkhjbnkcgekaaDoorPLexStopsx1
namespace Go.Proofs.YtimkhjbnkcgekaaDoor.Pure
open Go.RowKit Go.Proofs.YtimkhjbnkcgekaaDoor.PLexStops
theorem LexStops : drachmlaw08_LexStops.Pure := trivial
end Go.Proofs.YtimkhjbnkcgekaaDoor.Pure
