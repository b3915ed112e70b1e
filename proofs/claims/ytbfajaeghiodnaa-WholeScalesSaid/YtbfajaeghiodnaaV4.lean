/- The plain laws of layer 1's WholeTells, WholeSums, WholeProducts share these. Conditions: 64-bit numbers. -/
import Derived.Test.YtbfajaeghiodnaaV3
import Derived.OpenShut
namespace Go.Proofs.Ytbfajaeghiodnaa
open Go.RowKit Go.Proofs.YtbfajaeghiodnaaW.PrintWords Go.Proofs.YtbfajaeghiodnaaW.PrintLast Go.Proofs.YtbfajaeghiodnaaW.PrintMore

theorem i64_of {x : Int} (h : (Lit.int .i64 x).wf = true) : I64 x := by
  have := bounds_i64 h
  unfold I64
  omega
theorem tells_ev (a b : Int) (ha : I64 a) (hb : I64 b) : Ev (fun k => PBase.drachmlaw01_tells.f k a b) true := by
  refine Ev.congr (f := fun k => (PBase.whole_Add.f k a b).bind fun bt145 => (PBase.whole_Mul.f k a b).bind fun bt150 => (PBase.drachmref01_Mul.f k a b).bind fun bt152 => (PBase.whole_Split.f k a b).bind fun bt155 => (PBase.drachmref01_Split.f k a b).bind fun bt157 => if bt145.1 = (addF a b).1 then (if (bt145.2 == (addF a b).2) = true then (if bt150.1 = bt152.1 then (if (bt150.2 == bt152.2) = true then ((PBase.whole_Gcd.f k a b).bind fun t160 => ((PBase.drachmref01_Gcd.f k a b).bind fun t161 => (if t160 = t161 then (if bt155.1 = bt157.1 then (if bt155.2 = bt157.2 then some true else (some false)) else (some false)) else (some false)))) else (some false)) else (some false)) else (some false)) else (some false)) (fun k => ?_)
    ((Add_ev a b ha hb).bind ((Mul_ev a b ha hb).bind ((refMul_ev a b ha hb).bind ((Split_ev a b ha).bind ((refSplit_ev a b ha).bind ?_)))))
  · unfold PBase.drachmlaw01_tells.f
    rw [refAdd_eq a b ha hb]
    simp only [bs_, Fits_eq, refFits_eq, beq_self_eq_true]
  · refine Ev.congr (f := fun k => (PBase.whole_Gcd.f k a b).bind fun t160 => ((PBase.drachmref01_Gcd.f k a b).bind fun t161 => (if t160 = t161 then some true else some false))) (fun k => ?_) ((Gcd_ev a b ha hb).bind ((refGcd_ev a b ha hb).bind (Ev.congr (f := fun _ => some true) (fun k => ?_) (Ev.now _))))
    · rw [if_pos rfl, beq_self_eq_true, if_pos rfl, if_pos rfl, beq_self_eq_true, if_pos rfl]
      simp only [if_true]
    · rw [if_pos rfl]
end Go.Proofs.Ytbfajaeghiodnaa
