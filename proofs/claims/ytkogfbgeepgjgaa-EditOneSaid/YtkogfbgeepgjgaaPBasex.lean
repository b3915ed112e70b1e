/- Printed by a program of this session (wip/tools/prt.py) out of the translation: plain functions, and that the calls come to just them. No conditions beyond those that stand in each theorem. -/
import Derived.Test.YtkogfbgeepgjgaaPBasex0
import Derived.Test.YtkogfbgeepgjgaaPBasex1
import Derived.Test.YtkogfbgeepgjgaaPBasex2
import Derived.Test.YtkogfbgeepgjgaaPBasex3
import Derived.Test.YtkogfbgeepgjgaaPBasex4
import Derived.Test.YtkogfbgeepgjgaaPBasex5
import Derived.Test.YtkogfbgeepgjgaaPBasex6
namespace Go.Proofs.Ytkogfbgeepgjgaa.PBase
open Go.RowKit Go.Proofs.YtkogfbgeepgjgaaW.PrintWords Go.Proofs.YtkogfbgeepgjgaaW.PrintLast Go.Proofs.YtkogfbgeepgjgaaW.PrintMore
attribute [local go_sem] max2_int min2_int max_two min_two max_three min_three max_four min_four   -- for this text's walks alone
set_option linter.unusedVariables false
set_option linter.unusedSimpArgs false

end Go.Proofs.Ytkogfbgeepgjgaa.PBase
