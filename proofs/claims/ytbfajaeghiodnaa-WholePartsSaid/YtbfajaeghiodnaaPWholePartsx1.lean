/- Printed by a program of this session (wip/tools/prt.py) out of the translation: plain functions, and that the calls come to just them. No conditions beyond those that stand in each theorem. -/
import Derived.Test.YtbfajaeghiodnaaPWholePartsx0
namespace Go.Proofs.Ytbfajaeghiodnaa.PWholeParts
open Go.Proofs.Ytbfajaeghiodnaa.Sq Go.RowKit Go.Proofs.YtbfajaeghiodnaaW.PrintWords Go.Proofs.YtbfajaeghiodnaaW.PrintLast Go.Proofs.YtbfajaeghiodnaaW.PrintMore Go.Proofs.Ytbfajaeghiodnaa.PBase Go.Proofs.Ytbfajaeghiodnaa.PR
attribute [local go_sem] max2_int min2_int max_two min_two max_three min_three max_four min_four   -- for this text's walks alone
set_option linter.unusedVariables false
set_option linter.unusedSimpArgs false

-- NOT PRINTED: function 17 (whole_Parts)

def drachmlaw01_WholeParts.Pure : Prop := True
theorem drachmlaw01_WholeParts.walk (P : drachmlaw01_WholeParts.Pure) (a0 : Int) (a1 : Int) (w : World) (w0 : (Lit.int .i64 a0).wf = true) (w1 : (Lit.int .i64 a1).wf = true) :
  Calls Try.prog 9 #[.int .i64 a0, .int .i64 a1] w fun e w' => e = .returned (.bool true) ∧ Below w.heap.size w w' := by
 have h1 := bounds_i64 w0
 exact Go.Proofs.Ytbfajaeghiodnaa.Di.parts_walk a0 a1 (by omega) (by omega) w


end Go.Proofs.Ytbfajaeghiodnaa.PWholeParts
