/- Printed by a program of this session (wip/tools/prt.py) out of the translation: plain functions, and that the calls come to just them. No conditions beyond those that stand in each theorem. -/
import Derived.Test.YtgcaelopcdpkgaaDoorPBasex0
import Derived.Test.YtgcaelopcdpkgaaDoorPBasex1
import Derived.Test.YtgcaelopcdpkgaaDoorPBasex2
import Derived.Test.YtgcaelopcdpkgaaDoorPBasex3
import Derived.Test.YtgcaelopcdpkgaaDoorPBasex4
import Derived.Test.YtgcaelopcdpkgaaDoorPBasex5
import Derived.Test.YtgcaelopcdpkgaaDoorPBasex6
import Derived.Test.YtgcaelopcdpkgaaDoorPBasex7
namespace Go.Proofs.YtgcaelopcdpkgaaDoor.PBase
open Go.RowKit Go.Proofs.YtgcaelopcdpkgaaDoorW.PrintWords Go.Proofs.YtgcaelopcdpkgaaDoorW.PrintLast Go.Proofs.YtgcaelopcdpkgaaDoorW.PrintMore
attribute [local go_sem] max2_int min2_int max_two min_two max_three min_three max_four min_four   -- for this text's walks alone
set_option linter.unusedVariables false
set_option linter.unusedSimpArgs false

end Go.Proofs.YtgcaelopcdpkgaaDoor.PBase
