/- Printed by a program of this session (wip/tools/prt.py) out of the translation: plain functions, and that the calls come to just them. No conditions beyond those that stand in each theorem. -/
import Derived.Test.YtclpbnfcajbmkaaDoorGlob
import Derived.Test.YtclpbnfcajbmkaaDoorPDimsEndsx0
namespace Go.Proofs.YtclpbnfcajbmkaaDoor.PDimsEnds
open Go.Proofs.YtclpbnfcajbmkaaDoor.Sq Go.RowKit Go.Proofs.YtclpbnfcajbmkaaDoorW.PrintWords Go.Proofs.YtclpbnfcajbmkaaDoorW.PrintLast Go.Proofs.YtclpbnfcajbmkaaDoorW.PrintMore Go.Proofs.YtclpbnfcajbmkaaDoor.PB Go.Proofs.YtclpbnfcajbmkaaDoor.PQ
attribute [local go_sem] max2_int min2_int max_two min_two max_three min_three max_four min_four   -- for this text's walks alone
set_option linter.unusedVariables false
set_option linter.unusedSimpArgs false

def drachmlaw03_DimsEnds.Pure : Prop := True
theorem drachmlaw03_DimsEnds.walk (P : drachmlaw03_DimsEnds.Pure) (a0 : Int) (a1 : Int) (w : World) (hG : Glob [1, 2, 3] w) (w0 : (Lit.int .i64 a0).wf = true) (w1 : (Lit.int .i64 a1).wf = true) :
  Calls Tryd.prog 8 #[.int .i64 a0, .int .i64 a1] w fun e w' => e = .returned (.bool true) ∧ Below w.heap.size w w' := by
 have hG1 := hG.v1 rfl; have hG2 := hG.v2 rfl; have hG3 := hG.v3 rfl
 have h1 := bounds_i64 w1
 exact Go.Proofs.YtclpbnfcajbmkaaDoor.Di.ends_walk a0 a1 (by omega) (by omega) w hG


end Go.Proofs.YtclpbnfcajbmkaaDoor.PDimsEnds
