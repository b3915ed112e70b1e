/- WorthBack's plain law: for any two worths by numbers, without tags, the law's function answers true. No conditions beyond the sizes that every row has. -/
import Derived.Test.YthfibffgmoblaaaDoorPWorthBackx
import Derived.Test.YthfibffgmoblaaaDoorWo5d
import Derived.Test.YthfibffgmoblaaaDoorWo3
namespace Go.Proofs.YthfibffgmoblaaaDoor.Pure
open Go.RowKit Go.Proofs.YthfibffgmoblaaaDoor Go.Proofs.YthfibffgmoblaaaDoor.Fr Go.Proofs.YthfibffgmoblaaaDoor.Tx Go.Proofs.YthfibffgmoblaaaDoor.Wh Go.Proofs.YthfibffgmoblaaaDoor.Di Go.Proofs.YthfibffgmoblaaaDoor.Wo Go.Proofs.YthfibffgmoblaaaDoor.PB Go.Proofs.YthfibffgmoblaaaDoor.PC Go.Proofs.YthfibffgmoblaaaDoor.PD Go.Proofs.YthfibffgmoblaaaDoor.PO Go.Proofs.YthfibffgmoblaaaDoor.PQ Go.Proofs.YthfibffgmoblaaaDoor.PR Go.Proofs.YthfibffgmoblaaaDoor.PS Go.Proofs.YthfibffgmoblaaaDoor.PT Go.Proofs.YthfibffgmoblaaaDoor.PX Go.Proofs.YthfibffgmoblaaaDoorW.PrintWords Go.Proofs.YthfibffgmoblaaaDoorW.PrintLast Go.Proofs.YthfibffgmoblaaaDoorW.PrintMore Go.Proofs.YthfibffgmoblaaaDoor.PWorthBack
set_option linter.unusedVariables false
theorem mul_err {n d t n' d' t' : Int} {r : R4} (r1 : RD n d t = true) (r2 : RD n' d' t' = true) (s1 : MulS n d t n' d' t' r) : r.2.2.2 = 0 ∨ r.2.2.2 = 10 := by
  rcases s1 with ⟨h, _⟩ | ⟨_, _, _, rfl⟩ | ⟨_, _, _, h⟩
  · exact absurd ⟨r1, r2⟩ h
  · exact Or.inl rfl
  · rcases h.err with z | rfl
    · exact Or.inl z
    · exact Or.inr rfl
theorem mul_div {n d t n' d' t' x y z : Int} (r1 : RD n d t = true) (i2 : I64 d) (r2 : RD n' d' t' = true) (i4 : I64 d') (hb : n' ≠ 0) (m : MulS n d t n' d' t' (x, y, z, 0)) {q : R4} (s : DivS x y z n' d' t' q) : q = (n, d, t, 0) := by
  have rx : RD x y z = true := m.out.rd
  have R2 := (RD_right hb i4).1 r2
  rcases RD_cases r1 i2 with ⟨rfl, rfl, rfl⟩ | R1
  · have mm : (x, y, z, (0 : Int)) = (0, 1, 0, 0) := m.unique (Or.inr (Or.inl ⟨r1, r2, Or.inl rfl, rfl⟩))
    simp only [Prod.mk.injEq] at mm
    obtain ⟨rfl, rfl, rfl, _⟩ := mm
    exact s.unique (Or.inr (Or.inr (Or.inl ⟨rx, r2, hb, rfl, rfl⟩)))
  · have en : Enc (val n d t * val n' d' t') (x, y, z, 0) := by
      rcases m with ⟨h, _⟩ | ⟨_, _, h, _⟩ | ⟨_, _, _, h⟩
      · exact absurd ⟨r1, r2⟩ h
      · exact absurd h (fun c => c.elim R1.nz hb)
      · exact h
    have RX := en.right
    have es : Enc (val x y z * (val n' d' t')⁻¹) q := by
      rcases s with ⟨h, _⟩ | ⟨_, _, h, _⟩ | ⟨_, _, _, h, _⟩ | ⟨_, _, _, _, h⟩
      · exact absurd ⟨rx, r2⟩ h
      · exact absurd h hb
      · exact absurd h RX.1.nz
      · exact h
    have v : val x y z * (val n' d' t')⁻¹ = val n d t := by
      rw [RX.2, Rat.mul_assoc, Rat.mul_inv_cancel _ R2.ne, Rat.mul_one]
    rw [v] at es
    exact Enc.unique es R1.enc
theorem div_self {n d t : Int} (r1 : RD n d t = true) (id : I64 d) (hn : n ≠ 0) {q : R4} (s : DivS n d t n d t q) : q = (1, 1, 0, 0) := by
  have R := (RD_right hn id).1 r1
  rcases s with ⟨h, _⟩ | ⟨_, _, h, _⟩ | ⟨_, _, _, h, _⟩ | ⟨_, _, _, _, h⟩
  · exact absurd ⟨r1, r1⟩ h
  · exact absurd h hn
  · exact absurd h hn
  · rw [Rat.mul_inv_cancel _ R.ne, ← one_val] at h
    exact Enc.unique h one_right.enc
theorem make_one {r : R4} (s : MakeS 1 1 0 r) : r = (1, 1, 0, 0) := by
  have e : Ev (fun k => frac_Make.f k 1 1 0) (1, 1, 0, 0) := Ev.of (k := 60) (fun k => frac_Make.mono _ _ _ k) (by decide +kernel)
  obtain ⟨r', e', s'⟩ := FMake_ev (num := 1) (den := 1) (ten := 0) (by unfold I64; omega) (by unfold I64; omega)
  obtain rfl := s.unique s'
  obtain ⟨K, hK⟩ := e
  obtain ⟨K', hK'⟩ := e'
  have h1 := hK (K + K') (by omega)
  have h2 := hK' (K + K') (by omega)
  rw [h1] at h2
  exact (Option.some.inj h2).symm
theorem WorthBack : drachmlaw04_WorthBack.Pure := by
  intro a0 a1 a2 a3 a4 a5 a6 a7 a8 a9 a10 a11 a12 a13 a14 a15 a16 a17 a18 a19 a20 a21 h0 h1 h2 h3 h4 h5 h6 h7 h8 h9 h10 h11 h12 h13 h14 h15 h16 h17 h18 h19 h20 h21
  obtain ⟨a, p1, s1, z1⟩ := Spec_ev a0 a1 a2 a3 a4 a5 a6 a7 a8 a9 0 (i64_of h0) (i64_of h1)
  obtain ⟨b, p2, s2, z2⟩ := Spec_ev a11 a12 a13 a14 a15 a16 a17 a18 a19 a20 0 (i64_of h11) (i64_of h12)
  have ka := s1.ok (z1 rfl)
  have kb := s2.ok (z2 rfl)
  obtain ⟨r, m1, e1⟩ := mul_ok ka kb
  obtain ⟨r', m2, e2⟩ := mul_ok kb ka
  obtain rfl := m1.unique m2.comm
  rw [addD_comm (bd_mono s2.b (by decide)) (bd_mono s1.b (by decide))] at e2
  obtain ⟨q, d1, e3⟩ := div_ok kb kb
  have hadd := addD_ok s1.b s2.b (by decide) (by decide) (by decide)
  have out := m1.out
  have er := mul_err s1.rd s2.rd m1
  obtain ⟨o, so, e5⟩ := WOf_ev 1 (by unfold I64; omega)
  obtain rfl := make_one so
  refine Ev.rounds (Ev.congr (fun k => rfl) (awake_ev.bind (p1.bind (p2.bind (e1.bind (e2.bind (e3.bind ?_)))))))
  refine Ev.congr (fun k => if_neg (by simp)) ?_
  rw [show ((comb r (addD a b)).2.2.2.2.2.2.2.2.2.2.2 != (comb r (addD a b)).2.2.2.2.2.2.2.2.2.2.2) = false from bne_self_eq_false _]
  have hs : subD b b = (0, 0, 0, 0, 0, 0, 0, true) := by
    unfold subD
    rw [sub_val (bd_mono s2.b (by decide)) (bd_mono s2.b (by decide))]
    simp only [Int.sub_self]
    rfl
  rw [hs] at *
  by_cases hb0 : b.1 = 0
  · have hq : q = (0, 0, 0, 11) := d1.unique (Or.inr (Or.inl ⟨s2.rd, s2.rd, hb0, rfl⟩))
    subst hq
    exact Ev.step (f := fun _ => some true) (fun k => Eq.trans (b := if b.1 = 0 then _ else _) rfl ((if_pos hb0).trans rfl)) (Ev.now _)
  · have hq : q = (1, 1, 0, 0) := div_self s2.rd s2.o.2 hb0 d1
    subst hq
    refine Ev.step (fun k => Eq.trans (b := if b.1 = 0 then _ else _) rfl (if_neg hb0)) (e5.bind ?_)
    refine Ev.congr (fun k => if_pos rfl) ?_
    by_cases hz : r.2.2.2 = 0
    · have hc := comb_ok (d := addD a b) hz (by rw [hadd]) out.rd out.i1 out.i2 (by rw [hadd]; exact bd_mono (bd_add s1.b s2.b) (by decide))
      obtain ⟨q2, d2, e4⟩ := div_ok hc.1 kb
      have hr : r = (r.1, r.2.1, r.2.2.1, 0) := by rw [← hz]
      have h2 : q2 = (a.1, a.2.1, a.2.2.1, 0) := by
        rw [hc.2.2] at d2
        refine mul_div s1.rd s1.o.2 s2.rd s2.o.2 hb0 (x := r.1) (y := r.2.1) (z := r.2.2.1) ?_ d2
        rw [hr] at m1
        exact m1
      have h3 : subD (fst11 (comb r (addD a b))) b = (a.2.2.2.1, a.2.2.2.2.1, a.2.2.2.2.2.1, a.2.2.2.2.2.2.1, a.2.2.2.2.2.2.2.1, a.2.2.2.2.2.2.2.2.1, a.2.2.2.2.2.2.2.2.2.1, true) := by
        rw [hc.2.2, hadd]
        unfold subD
        rw [sub_val (bd_mono (bd_add s1.b s2.b) (by decide)) (bd_mono s2.b (by decide))]
        simp only [Int.add_sub_cancel]
        rw [eachP_ok _ _ _ _ _ _ _ (bd_mono s1.b (by decide))]
        rfl
      rw [h2, h3] at e4
      refine Ev.step (fun k => Eq.trans (b := if (comb r (addD a b)).2.2.2.2.2.2.2.2.2.2.2 = 0 then _ else _) rfl (if_pos hc.2.1)) (e4.bind ?_)
      refine Ev.congr (f := fun _ => some true) (fun k => ?_) (Ev.now _)
      refine (if_pos rfl).trans ((if_pos rfl).trans ((if_pos (by simp [comb])).trans ?_))
      simp [comb]
    · have hc : comb r (addD a b) = noW 10 := comb_err (fun q => hz q.1) er
      rw [hc]
      exact Ev.step (f := fun _ => some true) (fun k => rfl) (Ev.now _)
end Go.Proofs.YthfibffgmoblaaaDoor.Pure
