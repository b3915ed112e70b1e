/- Chapter 2: the examples of the chapter hold; a law's number is a right frac. Conditions: 64-bit numbers. -/
import Derived.Test.YtnndaackjgnhhaaDoorFr10
namespace Go.Proofs.YtnndaackjgnhhaaDoor.Fr
open Go.RowKit Go.Proofs.YtnndaackjgnhhaaDoor.Wh Go.Proofs.YtnndaackjgnhhaaDoor.PB Go.Proofs.YtnndaackjgnhhaaDoor.PC Go.Proofs.YtnndaackjgnhhaaDoor.PD Go.Proofs.YtnndaackjgnhhaaDoorW.PrintWords Go.Proofs.YtnndaackjgnhhaaDoorW.PrintLast Go.Proofs.YtnndaackjgnhhaaDoorW.PrintMore
set_option linter.unusedVariables false
set_option maxRecDepth 10000 in
theorem awake30 : drachmlaw02_awake.f 30 = some true := by decide +kernel
theorem awake_ev : Ev (fun k => drachmlaw02_awake.f k) true := Ev.of (k := 30) (fun k => drachmlaw02_awake.mono k) awake30
theorem Spec_ev {a b c : Int} (i1 : I64 a) (i2 : I64 b) : ∃ n d t, Ev (fun k => drachmlaw02_Spec_frac.f k a b c) (n, d, t) ∧ RD n d t = true ∧ I64 n ∧ I64 d ∧ -1000 ≤ t ∧ t ≤ 1000 := by
  obtain ⟨⟨n, d, t, e⟩, h, s⟩ := RMake_ev (ten := c) i1 i2
  have o := s.out
  by_cases z : e = 0
  · subst z
    exact ⟨n, d, t, Ev.congr (fun k => rfl) (h.bind (Ev.congr (f := fun _ => some (n, d, t)) (fun k => by rw [if_pos (by rfl)]) (Ev.now _))), o.rd, o.i1, o.i2, o.it⟩
  · exact ⟨1, 1, 0, Ev.congr (fun k => rfl) (h.bind (Ev.congr (f := fun _ => some (1, 1, 0)) (fun k => by rw [if_neg z]) (Ev.now _))), by decide, by unfold I64; omega, by unfold I64; omega, by omega, by omega⟩
end Go.Proofs.YtnndaackjgnhhaaDoor.Fr
