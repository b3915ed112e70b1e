/- Printed by a program of this session (wip/tools/prt.py) out of the translation: plain functions, and that the calls come to just them. No conditions beyond those that stand in each theorem. -/
import Derived.Test.YtimkhjbnkcgekaaDoorGlob
import Derived.Test.YtimkhjbnkcgekaaDoorPLexStopsx0
namespace Go.Proofs.YtimkhjbnkcgekaaDoor.PLexStops
open Go.Proofs.YtimkhjbnkcgekaaDoor.Sq Go.RowKit Go.Proofs.YtimkhjbnkcgekaaDoorW.PrintWords Go.Proofs.YtimkhjbnkcgekaaDoorW.PrintLast Go.Proofs.YtimkhjbnkcgekaaDoorW.PrintMore Go.Proofs.YtimkhjbnkcgekaaDoor.PB Go.Proofs.YtimkhjbnkcgekaaDoor.PC Go.Proofs.YtimkhjbnkcgekaaDoor.PQ
attribute [local go_sem] max2_int min2_int max_two min_two max_three min_three max_four min_four   -- for this text's walks alone
set_option linter.unusedVariables false
set_option linter.unusedSimpArgs false

-- NOT PRINTED: function 15 (lex_Each)

def drachmlaw08_LexStops.Pure : Prop := True
theorem drachmlaw08_LexStops.walk (P : drachmlaw08_LexStops.Pure) (a0 : Int) (a1 : ByteArray) (a2 : Int) (w : World) (hG : Glob [0, 2] w) (w0 : (Lit.int .i64 a0).wf = true) (w1 : a1.size ≤ 140737488351232) (w2 : (Lit.int .i64 a2).wf = true) :
  Calls Tryd.prog 5 #[.int .i64 a0, .string a1, .int .i64 a2] w fun e w' => e = .returned (.bool true) ∧ Below w.heap.size w w' := by
 have hG1 := hG.v0 rfl; have hG2 := hG.v2 rfl
 exact Go.Proofs.YtimkhjbnkcgekaaDoor.stops_walk a0 a1 a2 w hG


end Go.Proofs.YtimkhjbnkcgekaaDoor.PLexStops
