/- Chapter 4: the examples of the chapter hold. No conditions. -/
import Derived.Test.YthfibffgmoblaaaDoorWo2
import Derived.Test.YthfibffgmoblaaaDoorPQx
namespace Go.Proofs.YthfibffgmoblaaaDoor.Wo
open Go.RowKit Go.Proofs.YthfibffgmoblaaaDoor Go.Proofs.YthfibffgmoblaaaDoor.Fr Go.Proofs.YthfibffgmoblaaaDoor.Tx Go.Proofs.YthfibffgmoblaaaDoor.Wh Go.Proofs.YthfibffgmoblaaaDoor.Di Go.Proofs.YthfibffgmoblaaaDoor.PB Go.Proofs.YthfibffgmoblaaaDoor.PC Go.Proofs.YthfibffgmoblaaaDoor.PD Go.Proofs.YthfibffgmoblaaaDoor.PO Go.Proofs.YthfibffgmoblaaaDoor.PQ Go.Proofs.YthfibffgmoblaaaDoor.PR Go.Proofs.YthfibffgmoblaaaDoor.PS Go.Proofs.YthfibffgmoblaaaDoor.PT Go.Proofs.YthfibffgmoblaaaDoor.PX Go.Proofs.YthfibffgmoblaaaDoorW.PrintWords Go.Proofs.YthfibffgmoblaaaDoorW.PrintLast Go.Proofs.YthfibffgmoblaaaDoorW.PrintMore
set_option maxRecDepth 100000 in
theorem awake60 : drachmlaw04_awake.f 60 = some true := by decide +kernel
theorem awake_ev : Ev (fun k => drachmlaw04_awake.f k) true := Ev.of (k := 60) (fun k => drachmlaw04_awake.mono k) awake60
theorem i64_lit {x : Int} (h : (Lit.int .i64 x).wf = true) : I64 x := i64_of h
end Go.Proofs.YthfibffgmoblaaaDoor.Wo
