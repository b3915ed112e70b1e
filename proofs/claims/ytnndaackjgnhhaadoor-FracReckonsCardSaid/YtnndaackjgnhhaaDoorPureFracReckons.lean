/- FracReckons' plain law: for any numbers, fracs and power the law's function answers true. Its conditions: none beyond the sizes that every row has. -/
import Derived.Test.YtnndaackjgnhhaaDoorPFracReckonsx2
import Derived.Test.YtnndaackjgnhhaaDoorV1
namespace Go.Proofs.YtnndaackjgnhhaaDoor.Pure
open Go.RowKit Go.Proofs.YtnndaackjgnhhaaDoor.PFracReckons Go.Proofs.YtnndaackjgnhhaaDoor.Fr Go.Proofs.YtnndaackjgnhhaaDoor.Wh Go.Proofs.YtnndaackjgnhhaaDoor.PB Go.Proofs.YtnndaackjgnhhaaDoor.PC Go.Proofs.YtnndaackjgnhhaaDoor.PD Go.Proofs.YtnndaackjgnhhaaDoorW.PrintWords Go.Proofs.YtnndaackjgnhhaaDoorW.PrintLast
theorem reckons_ev {n d t n' d' t' m : Int} (i1 : I64 n) (i2 : I64 d) (i3 : I64 n') (i4 : I64 d') : Ev (fun k => drachmlaw02_reckons.f k n d t n' d' t' m) true := by
  obtain ⟨r, e1, s1⟩ := FMul_ev (t := t) (t' := t') i1 i2 i3 i4
  obtain ⟨r1, e2, s2⟩ := RMul_ev (t := t) (t' := t') i1 i2 i3 i4
  obtain rfl := s1.unique s2
  obtain ⟨q, e3, s3⟩ := FDiv_ev (t := t) (t' := t') i1 i2 i3 i4
  obtain ⟨q1, e4, s4⟩ := RDiv_ev (t := t) (t' := t') i1 i2 i3 i4
  obtain rfl := s3.unique s4
  obtain ⟨v, e5, s5⟩ := FPow_ev (t := t) (m := m) i1 i2
  obtain ⟨v1, e6, s6⟩ := RPow_ev (t := t) (m := m) i1 i2
  obtain rfl := s5.unique s6
  refine Ev.congr (fun k => rfl) (e1.bind (e3.bind (e5.bind (e2.bind (e4.bind (e6.bind (Ev.congr (f := fun _ => some true) (fun k => ?_) (Ev.now _))))))))
  rw [if_pos (eq3 _ _ _), if_pos rfl, if_pos (eq3 _ _ _), if_pos rfl, if_pos (eq3 _ _ _), beq_self_eq_true]
theorem FracReckons : drachmlaw02_FracReckons.Pure := by
  intro a b c a' b' c' x y z x' y' z' m h1 h2 h3 h4 h5 h6 g1 g2 g3 g4 g5 g6 hm
  obtain ⟨n, d, t, p1, _, j1, j2, _⟩ := Spec_ev (c := c) (i64_of h1) (i64_of h2)
  obtain ⟨n', d', t', p2, _, j3, j4, _⟩ := Spec_ev (c := c') (i64_of h4) (i64_of h5)
  have k1 := reckons_ev (t := t) (t' := t') (m := m) j1 j2 j3 j4
  have k2 := reckons_ev (t := z) (t' := z') (m := Int.tmod m 12) (i64_of g1) (i64_of g2) (i64_of g4) (i64_of g5)
  have k3 := reckons_ev (t := t) (t' := z) (m := Int.tmod m 7) j1 j2 (i64_of g1) (i64_of g2)
  obtain ⟨K0, a0⟩ := awake_ev
  obtain ⟨K1, a1⟩ := p1
  obtain ⟨K2, a2⟩ := p2
  obtain ⟨K3, a3⟩ := k1
  obtain ⟨K4, a4⟩ := k2
  obtain ⟨K5, a5⟩ := k3
  refine ⟨K0 + K1 + K2 + K3 + K4 + K5, ?_⟩
  generalize hK : K0 + K1 + K2 + K3 + K4 + K5 = K
  have a0 := a0 K (by omega)
  have a1 := a1 K (by omega)
  have a2 := a2 K (by omega)
  have a3 := a3 K (by omega)
  have a4 := a4 K (by omega)
  have a5 := a5 K (by omega)
  simp only at a0 a1 a2 a3 a4 a5
  unfold drachmlaw02_FracReckons.f
  rw [a0, bs_, if_pos rfl, a1, bs_, a2, bs_, a3, bs_, if_pos rfl, a4, bs_, if_pos rfl, bs_, a5, bs_]
end Go.Proofs.YtnndaackjgnhhaaDoor.Pure
