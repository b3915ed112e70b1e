/- A worth's power in plain numbers. Conditions: numbers of 64 bits. -/
import Derived.Test.YthfibffgmoblaaaDoorWo1
import Derived.Test.YthfibffgmoblaaaDoorYp
namespace Go.Proofs.YthfibffgmoblaaaDoor.Wo
open Go.RowKit Go.Proofs.YthfibffgmoblaaaDoor Go.Proofs.YthfibffgmoblaaaDoor.Fr Go.Proofs.YthfibffgmoblaaaDoor.Wh Go.Proofs.YthfibffgmoblaaaDoor.Di Go.Proofs.YthfibffgmoblaaaDoor.PB Go.Proofs.YthfibffgmoblaaaDoor.PC Go.Proofs.YthfibffgmoblaaaDoor.PD Go.Proofs.YthfibffgmoblaaaDoor.PO Go.Proofs.YthfibffgmoblaaaDoor.PR Go.Proofs.YthfibffgmoblaaaDoor.PS Go.Proofs.YthfibffgmoblaaaDoorW.PrintWords Go.Proofs.YthfibffgmoblaaaDoorW.PrintLast Go.Proofs.YthfibffgmoblaaaDoorW.PrintMore
set_option linter.unusedVariables false
def powE (a : W11) (n : Int) : Int := if n < -99 ∨ 99 < n then 1 else if RT a = true then (if tg a = 0 then 0 else 18) else 1
def powW (a : W11) (n : Int) (x : W12) : W12 := if n < -99 ∨ 99 < n then noW 1 else if RT a = true then (if tg a = 0 then x else noW 18) else noW 1
theorem WPow_ev (a : W11) (n : Int) (ia : O64 a) : ∃ r, PowS a.1 a.2.1 a.2.2.1 n r ∧ Ev (fun k => worth_Pow.f k a.1 a.2.1 a.2.2.1 a.2.2.2.1 a.2.2.2.2.1 a.2.2.2.2.2.1 a.2.2.2.2.2.2.1 a.2.2.2.2.2.2.2.1 a.2.2.2.2.2.2.2.2.1 a.2.2.2.2.2.2.2.2.2.1 a.2.2.2.2.2.2.2.2.2.2 n) (powW a n (comb r (timD a n))) := by
  obtain ⟨r, e, s⟩ := FPow_ev (t := a.2.2.1) (m := n) ia.1 ia.2
  refine ⟨r, s, ?_⟩
  unfold powW
  by_cases h0 : n < -99 ∨ 99 < n
  · rw [if_pos h0]
    exact Ev.congr (f := fun _ => some (noW 1)) (fun k => if_pos h0) (Ev.now _)
  · rw [if_neg h0]
    refine Ev.congr (fun k => if_neg h0) ?_
    refine Ev.congr (fun k => rfl) ((worth_Right_ev a ia).bind ?_)
    by_cases h1 : RT a = true
    · rw [if_pos h1]
      by_cases h3 : tg a = 0
      · rw [if_pos h3]
        refine Ev.congr (fun k => (if_pos h1).trans (if_pos h3)) (e.bind ?_)
        unfold comb
        by_cases z : r.2.2.2 = 0
        · rw [if_pos z, if_pos z]
          exact Ev.congr (fun k => rfl) (Ev.now _)
        · rw [if_neg z, if_neg z]
          exact Ev.now _
      · rw [if_neg h3]
        exact Ev.congr (f := fun _ => some (noW 18)) (fun k => (if_pos h1).trans (if_neg h3)) (Ev.now _)
    · rw [if_neg h1]
      exact Ev.congr (f := fun _ => some (noW 1)) (fun k => if_neg h1) (Ev.now _)
end Go.Proofs.YthfibffgmoblaaaDoor.Wo
