/- Printed by a program of this session (wip/tools/prt.py) out of the translation: plain functions, and that the calls come to just them. No conditions beyond those that stand in each theorem. -/
import Derived.Test.YtnndaackjgnhhaaDoorPBx0
import Derived.Test.YtnndaackjgnhhaaDoorPBx1
import Derived.Test.YtnndaackjgnhhaaDoorPBx2
import Derived.Test.YtnndaackjgnhhaaDoorPBx3
namespace Go.Proofs.YtnndaackjgnhhaaDoor.PB
open Go.RowKit Go.Proofs.YtnndaackjgnhhaaDoorW.PrintWords Go.Proofs.YtnndaackjgnhhaaDoorW.PrintLast Go.Proofs.YtnndaackjgnhhaaDoorW.PrintMore
attribute [local go_sem] max2_int min2_int max_two min_two max_three min_three max_four min_four   -- for this text's walks alone
set_option linter.unusedVariables false
set_option linter.unusedSimpArgs false

end Go.Proofs.YtnndaackjgnhhaaDoor.PB
