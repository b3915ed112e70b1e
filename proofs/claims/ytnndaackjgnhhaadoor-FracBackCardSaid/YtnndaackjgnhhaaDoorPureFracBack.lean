/- FracBack's plain law: for any two numbers the law's function answers true. Its conditions: none beyond the sizes that every row has. -/
import Derived.Test.YtnndaackjgnhhaaDoorPFracBackx2
import Derived.Test.YtnndaackjgnhhaaDoorV1
namespace Go.Proofs.YtnndaackjgnhhaaDoor.Pure
open Go.RowKit Go.Proofs.YtnndaackjgnhhaaDoor.PFracBack Go.Proofs.YtnndaackjgnhhaaDoor.Fr Go.Proofs.YtnndaackjgnhhaaDoor.Wh Go.Proofs.YtnndaackjgnhhaaDoor.PB Go.Proofs.YtnndaackjgnhhaaDoor.PC Go.Proofs.YtnndaackjgnhhaaDoor.PD Go.Proofs.YtnndaackjgnhhaaDoorW.PrintWords Go.Proofs.YtnndaackjgnhhaaDoorW.PrintLast
/-- what was multiplied is divided again -/
theorem mul_div {n d t n' d' t' x y z : Int} (r1 : RD n d t = true) (i2 : I64 d) (r2 : RD n' d' t' = true) (i4 : I64 d') (hb : n' ≠ 0) (m : MulS n d t n' d' t' (x, y, z, 0)) {q : R4} (s : DivS x y z n' d' t' q) : q = (n, d, t, 0) := by
  have rx : RD x y z = true := m.out.rd
  have R2 := (RD_right hb i4).1 r2
  rcases RD_cases r1 i2 with ⟨rfl, rfl, rfl⟩ | R1
  · have mm : (x, y, z, (0 : Int)) = (0, 1, 0, 0) := m.unique (Or.inr (Or.inl ⟨r1, r2, Or.inl rfl, rfl⟩))
    simp only [Prod.mk.injEq] at mm
    obtain ⟨rfl, rfl, rfl, _⟩ := mm
    exact s.unique (Or.inr (Or.inr (Or.inl ⟨rx, r2, hb, rfl, rfl⟩)))
  · have en : Enc (val n d t * val n' d' t') (x, y, z, 0) := by
      rcases m with ⟨h, _⟩ | ⟨_, _, h, _⟩ | ⟨_, _, _, h⟩
      · exact absurd ⟨r1, r2⟩ h
      · exact absurd h (fun c => c.elim R1.nz hb)
      · exact h
    have RX := en.right
    have es : Enc (val x y z * (val n' d' t')⁻¹) q := by
      rcases s with ⟨h, _⟩ | ⟨_, _, h, _⟩ | ⟨_, _, _, h, _⟩ | ⟨_, _, _, _, h⟩
      · exact absurd ⟨rx, r2⟩ h
      · exact absurd h hb
      · exact absurd h RX.1.nz
      · exact h
    have v : val x y z * (val n' d' t')⁻¹ = val n d t := by
      rw [RX.2, Rat.mul_assoc, Rat.mul_inv_cancel _ R2.ne, Rat.mul_one]
    rw [v] at es
    exact Enc.unique es R1.enc
theorem FracBack : drachmlaw02_FracBack.Pure := by
  intro a b c a' b' c' h1 h2 h3 h4 h5 h6
  obtain ⟨n, d, t, p1, r1, j1, j2, _⟩ := Spec_ev (c := c) (i64_of h1) (i64_of h2)
  obtain ⟨n', d', t', p2, r2, j3, j4, _⟩ := Spec_ev (c := c') (i64_of h4) (i64_of h5)
  obtain ⟨r, e1, s1⟩ := FMul_ev (t := t) (t' := t') j1 j2 j3 j4
  obtain ⟨r', e2, s2⟩ := FMul_ev (t := t') (t' := t) j3 j4 j1 j2
  obtain rfl := s1.unique s2.comm
  obtain ⟨g, e3, s3⟩ := FDiv_ev (t := t) (t' := 0) (n' := 0) (d' := 1) j1 j2 (by unfold I64; omega) (by unfold I64; omega)
  have g11 : g = (0, 0, 0, 11) := s3.unique (Or.inr (Or.inl ⟨r1, by decide, rfl, rfl⟩))
  subst g11
  have o := s1.out
  obtain ⟨q, e4, s4⟩ := FDiv_ev (t := r.2.2.1) (t' := t') o.i1 o.i2 j3 j4
  have p5 := Right_ev (t := r.2.2.1) o.i1 o.i2
  obtain ⟨K0, a0⟩ := awake_ev
  obtain ⟨K1, a1⟩ := p1
  obtain ⟨K2, a2⟩ := p2
  obtain ⟨K3, a3⟩ := e1
  obtain ⟨K4, a4⟩ := e2
  obtain ⟨K5, a5⟩ := e3
  obtain ⟨K6, a6⟩ := e4
  obtain ⟨K7, a7⟩ := p5
  refine ⟨K0 + K1 + K2 + K3 + K4 + K5 + K6 + K7 + 2, ?_⟩
  obtain ⟨K, hK⟩ : ∃ K, K = K0 + K1 + K2 + K3 + K4 + K5 + K6 + K7 := ⟨_, rfl⟩
  rw [← hK]
  have a0 := a0 (K + 2) (by omega)
  have a1 := a1 (K + 2) (by omega)
  have a2 := a2 (K + 2) (by omega)
  have a3 := a3 (K + 2) (by omega)
  have a4 := a4 (K + 2) (by omega)
  have a5 := a5 (K + 2) (by omega)
  have a6 := a6 K (by omega)
  have a7 := a7 K (by omega)
  simp only at a0 a1 a2 a3 a4 a5 a6 a7
  unfold drachmlaw02_FracBack.f
  rw [a0, bs_, a1, bs_, a2, bs_, a3, bs_, a4, bs_, a5, bs_, ne3, if_neg (by decide), if_pos rfl]
  have err : r.2.2.2 = 0 ∨ r.2.2.2 = 10 := by
    rcases s1 with ⟨h, _⟩ | ⟨_, _, _, rfl⟩ | ⟨_, _, _, h⟩
    · exact absurd ⟨r1, r2⟩ h
    · exact Or.inl rfl
    · rcases h.err with z | rfl
      · exact Or.inl z
      · exact Or.inr rfl
  show drachmlaw02_FracBack.j0 (K + 1 + 1) true r.2.2.2 false n d t n' d' t' r.1 r.2.1 r.2.2.1 = some true
  rw [drachmlaw02_FracBack.j0, if_neg (by decide)]
  by_cases z : r.2.2.2 = 0
  · rw [if_pos z]
    by_cases hb : n' = 0
    · rw [hb, show ((0 : Int) == 0) = true from rfl, drachmlaw02_FracBack.j1, if_pos rfl, if_pos rfl, if_pos z]
    · rw [show (n' == 0) = false from beq_eq_false_iff_ne.mpr hb, drachmlaw02_FracBack.j1, if_neg (by decide), a6, bs_, if_pos rfl]
      obtain ⟨x, y, w, er⟩ := r
      simp only at z
      subst z
      have hq := mul_div r1 j2 r2 j4 hb s1 s4
      subst hq
      rw [if_pos rfl, if_pos (eq3 _ _ _), a7, bs_, o.rd]
      rfl
  · rw [if_neg z, drachmlaw02_FracBack.j1, if_pos rfl, if_pos rfl, if_neg z]
    rcases err with h | h
    · exact absurd h z
    · rw [h]; rfl
end Go.Proofs.YtnndaackjgnhhaaDoor.Pure
