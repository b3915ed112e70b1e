/- FracMakes' plain law: for any numbers and any frac the law's function answers true. Its conditions: none beyond the sizes that every row has. -/
import Derived.Test.YtnndaackjgnhhaaDoorPFracMakesx2
import Derived.Test.YtnndaackjgnhhaaDoorV1
namespace Go.Proofs.YtnndaackjgnhhaaDoor.Pure
open Go.RowKit Go.Proofs.YtnndaackjgnhhaaDoor.PFracMakes Go.Proofs.YtnndaackjgnhhaaDoor.Fr Go.Proofs.YtnndaackjgnhhaaDoor.Wh Go.Proofs.YtnndaackjgnhhaaDoor.PB Go.Proofs.YtnndaackjgnhhaaDoor.PC Go.Proofs.YtnndaackjgnhhaaDoor.PD Go.Proofs.YtnndaackjgnhhaaDoorW.PrintWords Go.Proofs.YtnndaackjgnhhaaDoorW.PrintLast
theorem FracMakes : drachmlaw02_FracMakes.Pure := by
  intro a b c x y z h1 h2 h3 h4 h5 h6
  have i1 := i64_of h1
  have i2 := i64_of h2
  have i4 := i64_of h4
  have i5 := i64_of h5
  obtain ⟨r, e1, s1⟩ := FMake_ev (ten := c) i1 i2
  obtain ⟨r', e2, s2⟩ := RMake_ev (ten := c) i1 i2
  obtain rfl := s1.unique s2
  have o := s1.out
  obtain ⟨n, d, t, e⟩ := r
  have p1 := Right_ev (t := t) o.i1 o.i2
  have p2 := Right_ev (t := z) i4 i5
  have p3 := refRight_ev (t := z) i4 i5
  obtain ⟨K0, a0⟩ := awake_ev
  obtain ⟨K1, a1⟩ := e1
  obtain ⟨K2, a2⟩ := e2
  obtain ⟨K3, a3⟩ := p1
  obtain ⟨K4, a4⟩ := p2
  obtain ⟨K5, a5⟩ := p3
  refine ⟨K0 + K1 + K2 + K3 + K4 + K5, ?_⟩
  generalize hK : K0 + K1 + K2 + K3 + K4 + K5 = K
  have a0 := a0 K (by omega)
  have a1 := a1 K (by omega)
  have a2 := a2 K (by omega)
  have a3 := a3 K (by omega)
  have a4 := a4 K (by omega)
  have a5 := a5 K (by omega)
  have hr := o.rd
  simp only at a0 a1 a2 a3 a4 a5 hr
  unfold drachmlaw02_FracMakes.f
  rw [a0, bs_, a1, bs_, a2, bs_, if_pos rfl, if_pos (eq3 n d t), if_pos rfl, a3, bs_, hr, if_pos (by simp), a4, bs_, a5, bs_]
  simp
end Go.Proofs.YtnndaackjgnhhaaDoor.Pure
