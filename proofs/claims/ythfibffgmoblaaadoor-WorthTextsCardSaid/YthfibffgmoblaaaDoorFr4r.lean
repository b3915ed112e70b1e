/- Products, inverses, and which fracs are right: what the program's and the reference's functions come to. Conditions: 64-bit numbers in form. -/
import Derived.Test.YthfibffgmoblaaaDoorFr5
import Derived.Test.YthfibffgmoblaaaDoorPEx
namespace Go.Proofs.YthfibffgmoblaaaDoor.Fr
open Go.RowKit Go.Proofs.YthfibffgmoblaaaDoor.Wh Go.Proofs.YthfibffgmoblaaaDoor.PB Go.Proofs.YthfibffgmoblaaaDoor.PE Go.Proofs.YthfibffgmoblaaaDoor.PC Go.Proofs.YthfibffgmoblaaaDoorW.PrintWords Go.Proofs.YthfibffgmoblaaaDoorW.PrintLast Go.Proofs.YthfibffgmoblaaaDoorW.PrintMore
set_option linter.unusedVariables false
theorem refRight_ev {n d t : Int} (i : I64 n) (id : I64 d) : Ev (fun k => drachmref02_Right.f k n d t) (RD n d t) := by
  by_cases h0 : n = 0
  · refine Ev.congr (f := fun _ => some _) (fun k => ?_) (Ev.now _)
    unfold drachmref02_Right.f RD
    rw [refFits_eq, bs_, if_pos h0, if_pos h0]
    by_cases h1 : d = 1
    · rw [if_pos h1]; simp [h1]
    · rw [if_neg h1]; simp [h1]
  · refine Ev.congr (fun k => ?_) (right_tail (refGcd_ev n d i id) i h0)
    unfold drachmref02_Right.f
    rw [refFits_eq, bs_, if_neg h0]
    unfold fits
    by_cases c1 : -9223372036854775807 ≤ n
    · rw [decide_eq_true c1, if_pos rfl, if_pos c1]
    · rw [decide_eq_false c1, if_neg (by decide), if_neg c1]

end Go.Proofs.YthfibffgmoblaaaDoor.Fr
