/- Printed by a program of this session (wip/tools/prt.py) out of the translation: plain functions, and that the calls come to just them. No conditions beyond those that stand in each theorem. -/
import Derived.Test.YtclpbnfcajbmkaaDoorGlob
import Derived.Test.YtclpbnfcajbmkaaDoorPDimsEachx0
namespace Go.Proofs.YtclpbnfcajbmkaaDoor.PDimsEach
open Go.Proofs.YtclpbnfcajbmkaaDoor.Sq Go.RowKit Go.Proofs.YtclpbnfcajbmkaaDoorW.PrintWords Go.Proofs.YtclpbnfcajbmkaaDoorW.PrintLast Go.Proofs.YtclpbnfcajbmkaaDoorW.PrintMore Go.Proofs.YtclpbnfcajbmkaaDoor.PB Go.Proofs.YtclpbnfcajbmkaaDoor.PQ
attribute [local go_sem] max2_int min2_int max_two min_two max_three min_three max_four min_four   -- for this text's walks alone
set_option linter.unusedVariables false
set_option linter.unusedSimpArgs false

-- NOT PRINTED: function 14 (dims_Each)

def drachmlaw03_DimsEach.Pure : Prop := True
theorem drachmlaw03_DimsEach.walk (P : drachmlaw03_DimsEach.Pure) (a0_0 : Int) (a0_1 : Int) (a0_2 : Int) (a0_3 : Int) (a0_4 : Int) (a0_5 : Int) (a0_6 : Int) (a1 : Int) (w : World) (hG : Glob [1, 2, 3] w) (w0_0 : (Lit.int .i64 a0_0).wf = true) (w0_1 : (Lit.int .i64 a0_1).wf = true) (w0_2 : (Lit.int .i64 a0_2).wf = true) (w0_3 : (Lit.int .i64 a0_3).wf = true) (w0_4 : (Lit.int .i64 a0_4).wf = true) (w0_5 : (Lit.int .i64 a0_5).wf = true) (w0_6 : (Lit.int .i64 a0_6).wf = true) (w1 : (Lit.int .i64 a1).wf = true) :
  Calls Tryd.prog 4 #[.agg #[.int .i64 a0_0, .int .i64 a0_1, .int .i64 a0_2, .int .i64 a0_3, .int .i64 a0_4, .int .i64 a0_5, .int .i64 a0_6], .int .i64 a1] w fun e w' => e = .returned (.bool true) ∧ Below w.heap.size w w' := by
 have hG1 := hG.v1 rfl; have hG2 := hG.v2 rfl; have hG3 := hG.v3 rfl
 exact Go.Proofs.YtclpbnfcajbmkaaDoor.Di.each_walk (Go.Proofs.YtclpbnfcajbmkaaDoor.Di.fn7 a0_0 a0_1 a0_2 a0_3 a0_4 a0_5 a0_6) a1 w hG


end Go.Proofs.YtclpbnfcajbmkaaDoor.PDimsEach
