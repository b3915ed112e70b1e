/- A worth's quotient in plain numbers. Conditions: numbers of 64 bits. -/
import Derived.Test.YthfibffgmoblaaaDoorWo1
import Derived.Test.YthfibffgmoblaaaDoorYd
namespace Go.Proofs.YthfibffgmoblaaaDoor.Wo
open Go.RowKit Go.Proofs.YthfibffgmoblaaaDoor Go.Proofs.YthfibffgmoblaaaDoor.Fr Go.Proofs.YthfibffgmoblaaaDoor.Wh Go.Proofs.YthfibffgmoblaaaDoor.Di Go.Proofs.YthfibffgmoblaaaDoor.PB Go.Proofs.YthfibffgmoblaaaDoor.PC Go.Proofs.YthfibffgmoblaaaDoor.PD Go.Proofs.YthfibffgmoblaaaDoor.PO Go.Proofs.YthfibffgmoblaaaDoor.PR Go.Proofs.YthfibffgmoblaaaDoor.PS Go.Proofs.YthfibffgmoblaaaDoorW.PrintWords Go.Proofs.YthfibffgmoblaaaDoorW.PrintLast Go.Proofs.YthfibffgmoblaaaDoorW.PrintMore
set_option linter.unusedVariables false
theorem WDiv_ev (a b : W11) (ia : O64 a) (ib : O64 b) : ∃ r, DivS a.1 a.2.1 a.2.2.1 b.1 b.2.1 b.2.2.1 r ∧ Ev (fun k => worth_Div.f k a.1 a.2.1 a.2.2.1 a.2.2.2.1 a.2.2.2.2.1 a.2.2.2.2.2.1 a.2.2.2.2.2.2.1 a.2.2.2.2.2.2.2.1 a.2.2.2.2.2.2.2.2.1 a.2.2.2.2.2.2.2.2.2.1 a.2.2.2.2.2.2.2.2.2.2 b.1 b.2.1 b.2.2.1 b.2.2.2.1 b.2.2.2.2.1 b.2.2.2.2.2.1 b.2.2.2.2.2.2.1 b.2.2.2.2.2.2.2.1 b.2.2.2.2.2.2.2.2.1 b.2.2.2.2.2.2.2.2.2.1 b.2.2.2.2.2.2.2.2.2.2) (mayW a b (comb r (subD a b))) := by
  obtain ⟨r, e, s⟩ := FDiv_ev (t := a.2.2.1) (t' := b.2.2.1) ia.1 ia.2 ib.1 ib.2
  refine ⟨r, s, Ev.congr (fun k => rfl) ((worth_Right_ev a ia).bind ?_)⟩
  unfold mayW
  by_cases h1 : RT a = true
  · rw [if_pos h1]
    refine Ev.congr (fun k => by rw [if_pos h1]) ((worth_Right_ev b ib).bind ?_)
    by_cases h2 : RT b = true
    · rw [if_pos h2]
      by_cases h3 : tg a = 0 ∧ tg b = 0
      · rw [if_pos h3]
        refine Ev.congr (fun k => (if_pos h2).trans (if_pos h3)) (e.bind ?_)
        unfold comb
        by_cases z : r.2.2.2 = 0
        · rw [if_pos z, if_pos z]
          exact Ev.congr (fun k => rfl) (Ev.now _)
        · rw [if_neg z, if_neg z]
          exact Ev.now _
      · rw [if_neg h3]
        exact Ev.congr (f := fun _ => some (noW 18)) (fun k => (if_pos h2).trans (if_neg h3)) (Ev.now _)
    · rw [if_neg h2]
      exact Ev.congr (f := fun _ => some (noW 1)) (fun k => if_neg h2) (Ev.now _)
  · rw [if_neg h1]
    exact Ev.congr (f := fun _ => some (noW 1)) (fun k => if_neg h1) (Ev.now _)
end Go.Proofs.YthfibffgmoblaaaDoor.Wo
