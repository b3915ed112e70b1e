/- WorthChains' plain law: for any three worths by numbers, without tags, the law's function answers true. No conditions beyond the sizes that every row has. -/
import Derived.Test.YthfibffgmoblaaaDoorPWorthChainsx
import Derived.Test.YthfibffgmoblaaaDoorWo5
import Derived.Test.YthfibffgmoblaaaDoorWo3
namespace Go.Proofs.YthfibffgmoblaaaDoor.Pure
open Go.RowKit Go.Proofs.YthfibffgmoblaaaDoor Go.Proofs.YthfibffgmoblaaaDoor.Fr Go.Proofs.YthfibffgmoblaaaDoor.Tx Go.Proofs.YthfibffgmoblaaaDoor.Wh Go.Proofs.YthfibffgmoblaaaDoor.Di Go.Proofs.YthfibffgmoblaaaDoor.Wo Go.Proofs.YthfibffgmoblaaaDoor.PB Go.Proofs.YthfibffgmoblaaaDoor.PC Go.Proofs.YthfibffgmoblaaaDoor.PD Go.Proofs.YthfibffgmoblaaaDoor.PO Go.Proofs.YthfibffgmoblaaaDoor.PQ Go.Proofs.YthfibffgmoblaaaDoor.PR Go.Proofs.YthfibffgmoblaaaDoor.PS Go.Proofs.YthfibffgmoblaaaDoor.PT Go.Proofs.YthfibffgmoblaaaDoor.PX Go.Proofs.YthfibffgmoblaaaDoorW.PrintWords Go.Proofs.YthfibffgmoblaaaDoorW.PrintLast Go.Proofs.YthfibffgmoblaaaDoorW.PrintMore Go.Proofs.YthfibffgmoblaaaDoor.PWorthChains
set_option linter.unusedVariables false
theorem mul_err {n d t n' d' t' : Int} {r : R4} (r1 : RD n d t = true) (r2 : RD n' d' t' = true) (s1 : MulS n d t n' d' t' r) : r.2.2.2 = 0 ∨ r.2.2.2 = 10 := by
  rcases s1 with ⟨h, _⟩ | ⟨_, _, _, rfl⟩ | ⟨_, _, _, h⟩
  · exact absurd ⟨r1, r2⟩ h
  · exact Or.inl rfl
  · rcases h.err with z | rfl
    · exact Or.inl z
    · exact Or.inr rfl
theorem mul_assoc_ {n1 d1 t1 n2 d2 t2 n3 d3 t3 : Int} (r1 : RD n1 d1 t1 = true) (r2 : RD n2 d2 t2 = true) (r3 : RD n3 d3 t3 = true) (i1 : I64 d1) (i2 : I64 d2) (i3 : I64 d3) {x y z x' y' z' : Int}
    (m1 : MulS n1 d1 t1 n2 d2 t2 (x, y, z, 0)) (m2 : MulS n2 d2 t2 n3 d3 t3 (x', y', z', 0)) {p q : R4} (m3 : MulS x y z n3 d3 t3 p) (m4 : MulS n1 d1 t1 x' y' z' q) : p = q := by
  have rx : RD x y z = true := m1.out.rd
  have rx' : RD x' y' z' = true := m2.out.rd
  rcases RD_cases r1 i1 with ⟨rfl, rfl, rfl⟩ | R1
  · have mm : (x, y, z, (0 : Int)) = (0, 1, 0, 0) := m1.unique (Or.inr (Or.inl ⟨r1, r2, Or.inl rfl, rfl⟩))
    simp only [Prod.mk.injEq] at mm
    obtain ⟨rfl, rfl, rfl, _⟩ := mm
    have e1 : p = (0, 1, 0, 0) := m3.unique (Or.inr (Or.inl ⟨rx, r3, Or.inl rfl, rfl⟩))
    have e2 : q = (0, 1, 0, 0) := m4.unique (Or.inr (Or.inl ⟨r1, rx', Or.inl rfl, rfl⟩))
    rw [e1, e2]
  · rcases RD_cases r3 i3 with ⟨rfl, rfl, rfl⟩ | R3
    · have mm : (x', y', z', (0 : Int)) = (0, 1, 0, 0) := m2.unique (Or.inr (Or.inl ⟨r2, r3, Or.inr rfl, rfl⟩))
      simp only [Prod.mk.injEq] at mm
      obtain ⟨rfl, rfl, rfl, _⟩ := mm
      have e1 : p = (0, 1, 0, 0) := m3.unique (Or.inr (Or.inl ⟨rx, r3, Or.inr rfl, rfl⟩))
      have e2 : q = (0, 1, 0, 0) := m4.unique (Or.inr (Or.inl ⟨r1, rx', Or.inr rfl, rfl⟩))
      rw [e1, e2]
    · rcases RD_cases r2 i2 with ⟨rfl, rfl, rfl⟩ | R2
      · have mm : (x, y, z, (0 : Int)) = (0, 1, 0, 0) := m1.unique (Or.inr (Or.inl ⟨r1, r2, Or.inr rfl, rfl⟩))
        have mm' : (x', y', z', (0 : Int)) = (0, 1, 0, 0) := m2.unique (Or.inr (Or.inl ⟨r2, r3, Or.inl rfl, rfl⟩))
        simp only [Prod.mk.injEq] at mm mm'
        obtain ⟨rfl, rfl, rfl, _⟩ := mm
        obtain ⟨rfl, rfl, rfl, _⟩ := mm'
        have e1 : p = (0, 1, 0, 0) := m3.unique (Or.inr (Or.inl ⟨rx, r3, Or.inl rfl, rfl⟩))
        have e2 : q = (0, 1, 0, 0) := m4.unique (Or.inr (Or.inl ⟨r1, rx', Or.inr rfl, rfl⟩))
        rw [e1, e2]
      · have en : ∀ {n d t n' d' t' : Int} {r : R4}, RD n d t = true → RD n' d' t' = true → n ≠ 0 → n' ≠ 0 → MulS n d t n' d' t' r → Enc (val n d t * val n' d' t') r := by
          intro n d t n' d' t' r g1 g2 h1 h2 m
          rcases m with ⟨h, _⟩ | ⟨_, _, h, _⟩ | ⟨_, _, _, h⟩
          · exact absurd ⟨g1, g2⟩ h
          · exact absurd h (fun c => c.elim h1 h2)
          · exact h
        have a1 := (en r1 r2 R1.nz R2.nz m1).right
        have a2 := (en r2 r3 R2.nz R3.nz m2).right
        have a3 := en rx r3 a1.1.nz R3.nz m3
        have a4 := en r1 rx' R1.nz a2.1.nz m4
        rw [a1.2, Rat.mul_assoc] at a3
        rw [a2.2] at a4
        exact Enc.unique a3 a4
theorem WorthChains : drachmlaw04_WorthChains.Pure := by
  intro a0 a1 a2 a3 a4 a5 a6 a7 a8 a9 a10 a11 a12 a13 a14 a15 a16 a17 a18 a19 a20 a21 a22 a23 a24 a25 a26 a27 a28 a29 a30 a31 a32 h0 h1 h2 h3 h4 h5 h6 h7 h8 h9 h10 h11 h12 h13 h14 h15 h16 h17 h18 h19 h20 h21 h22 h23 h24 h25 h26 h27 h28 h29 h30 h31 h32
  obtain ⟨a, p1, s1, z1⟩ := Spec_ev a0 a1 a2 a3 a4 a5 a6 a7 a8 a9 0 (i64_of h0) (i64_of h1)
  obtain ⟨b, p2, s2, z2⟩ := Spec_ev a11 a12 a13 a14 a15 a16 a17 a18 a19 a20 0 (i64_of h11) (i64_of h12)
  obtain ⟨c, p3, s3, z3⟩ := Spec_ev a22 a23 a24 a25 a26 a27 a28 a29 a30 a31 0 (i64_of h22) (i64_of h23)
  have ka := s1.ok (z1 rfl)
  have kb := s2.ok (z2 rfl)
  have kc := s3.ok (z3 rfl)
  obtain ⟨r, m1, e1⟩ := mul_ok ka kb
  obtain ⟨r', m2, e2⟩ := mul_ok kb kc
  have h1 := addD_ok s1.b s2.b (by decide) (by decide) (by decide)
  have h2 := addD_ok s2.b s3.b (by decide) (by decide) (by decide)
  have o1 := m1.out
  have o2 := m2.out
  have er1 := mul_err s1.rd s2.rd m1
  have er2 := mul_err s2.rd s3.rd m2
  refine Ev.rounds (Ev.congr (fun k => rfl) (awake_ev.bind (p1.bind (p2.bind (p3.bind (e1.bind (e2.bind ?_)))))))
  by_cases y1 : r.2.2.2 = 0
  · have hc1 := comb_ok (d := addD a b) y1 (by rw [h1]) o1.rd o1.i1 o1.i2 (by rw [h1]; exact bd_mono (bd_add s1.b s2.b) (by decide))
    refine Ev.congr (fun k => if_pos hc1.2.1) ?_
    by_cases y2 : r'.2.2.2 = 0
    · have hc2 := comb_ok (d := addD b c) y2 (by rw [h2]) o2.rd o2.i1 o2.i2 (by rw [h2]; exact bd_mono (bd_add s2.b s3.b) (by decide))
      obtain ⟨p, m3, e3⟩ := mul_ok hc1.1 kc
      obtain ⟨q, m4, e4⟩ := mul_ok ka hc2.1
      have hd : addD (fst11 (comb r (addD a b))) c = addD a (fst11 (comb r' (addD b c))) := by
        have w1 : bd 18 (ds (fst11 (comb r (addD a b)))) := by rw [hc1.2.2, h1]; exact bd_add s1.b s2.b
        have w2 : bd 18 (ds (fst11 (comb r' (addD b c)))) := by rw [hc2.2.2, h2]; exact bd_add s2.b s3.b
        rw [addD_ok w1 s3.b (by decide) (by decide) (by decide), addD_ok s1.b w2 (by decide) (by decide) (by decide)]
        rw [hc1.2.2, hc2.2.2, h1, h2]
        simp only [Int.add_assoc]
      have hp : p = q := by
        rw [hc1.2.2] at m3
        rw [hc2.2.2] at m4
        have g1 : r = (r.1, r.2.1, r.2.2.1, 0) := by rw [← y1]
        have g2 : r' = (r'.1, r'.2.1, r'.2.2.1, 0) := by rw [← y2]
        rw [g1] at m1
        rw [g2] at m2
        exact mul_assoc_ s1.rd s2.rd s3.rd s1.o.2 s2.o.2 s3.o.2 m1 m2 m3 m4
      subst hp
      rw [← hd] at e4
      obtain ⟨x, hx⟩ : ∃ x, comb p (addD (fst11 (comb r (addD a b))) c) = x := ⟨_, rfl⟩
      rw [hx] at e3 e4
      refine Ev.step (fun k => if_neg (by rw [hc2.2.1]; decide)) (e3.bind (e4.bind ?_))
      exact Ev.congr (f := fun _ => some true) (fun k => (if_pos rfl).trans ((if_pos (by simp)).trans (by simp))) (Ev.now _)
    · have g2 : comb r' (addD b c) = noW 10 := comb_err (fun q => y2 q.1) er2
      rw [g2]
      exact Ev.step (f := fun _ => some true) (fun k => Eq.trans (b := if (comb r (addD a b)).2.2.2.2.2.2.2.2.2.2.2 = 0 then _ else _) rfl ((if_pos hc1.2.1).trans rfl)) (Ev.now _)
  · have g1 : comb r (addD a b) = noW 10 := comb_err (fun q => y1 q.1) er1
    rw [g1]
    refine Ev.congr (fun k => if_neg (by decide)) ?_
    by_cases y2 : r'.2.2.2 = 0
    · have hc2 := comb_ok (d := addD b c) y2 (by rw [h2]) o2.rd o2.i1 o2.i2 (by rw [h2]; exact bd_mono (bd_add s2.b s3.b) (by decide))
      exact Ev.step (f := fun _ => some true) (fun k => Eq.trans (b := if (comb r' (addD b c)).2.2.2.2.2.2.2.2.2.2.2 = 0 then _ else _) rfl (if_pos hc2.2.1)) (Ev.now _)
    · have g2 : comb r' (addD b c) = noW 10 := comb_err (fun q => y2 q.1) er2
      rw [g2]
      exact Ev.step (f := fun _ => some true) (fun k => rfl) (Ev.now _)
end Go.Proofs.YthfibffgmoblaaaDoor.Pure
