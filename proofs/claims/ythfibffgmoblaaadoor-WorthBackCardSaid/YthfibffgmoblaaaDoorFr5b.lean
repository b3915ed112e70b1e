/- Quotients of numbers' forms. Conditions: 64-bit numbers. -/
import Derived.Test.YthfibffgmoblaaaDoorFr5
import Derived.Test.YthfibffgmoblaaaDoorPDx
namespace Go.Proofs.YthfibffgmoblaaaDoor.Fr
open Go.RowKit Go.Proofs.YthfibffgmoblaaaDoor.Wh Go.Proofs.YthfibffgmoblaaaDoor.PB Go.Proofs.YthfibffgmoblaaaDoor.PC Go.Proofs.YthfibffgmoblaaaDoor.PD Go.Proofs.YthfibffgmoblaaaDoor.PD Go.Proofs.YthfibffgmoblaaaDoorW.PrintWords Go.Proofs.YthfibffgmoblaaaDoorW.PrintLast Go.Proofs.YthfibffgmoblaaaDoorW.PrintMore
set_option linter.unusedVariables false
def DivS (n d t n' d' t' : Int) (r : R4) : Prop :=
  (¬ (RD n d t = true ∧ RD n' d' t' = true) ∧ r = (0, 0, 0, 1)) ∨ (RD n d t = true ∧ RD n' d' t' = true ∧ n' = 0 ∧ r = (0, 0, 0, 11)) ∨ (RD n d t = true ∧ RD n' d' t' = true ∧ n' ≠ 0 ∧ n = 0 ∧ r = (0, 1, 0, 0)) ∨ (RD n d t = true ∧ RD n' d' t' = true ∧ n' ≠ 0 ∧ n ≠ 0 ∧ Enc (val n d t * (val n' d' t')⁻¹) r)
theorem DivS.unique {n d t n' d' t' : Int} {r r' : R4} (h : DivS n d t n' d' t' r) (h' : DivS n d t n' d' t' r') : r = r' := by
  rcases h with ⟨a, rfl⟩ | ⟨a1, a2, a3, rfl⟩ | ⟨a1, a2, a3, a4, rfl⟩ | ⟨a1, a2, a3, a4, a5⟩ <;> rcases h' with ⟨b, rfl⟩ | ⟨b1, b2, b3, rfl⟩ | ⟨b1, b2, b3, b4, rfl⟩ | ⟨b1, b2, b3, b4, b5⟩
  all_goals first | rfl | (exact Enc.unique a5 b5) | (exfalso; first | exact a ⟨b1, b2⟩ | exact b ⟨a1, a2⟩ | exact a3 b3 | exact b3 a3 | exact a4 b4 | exact b4 a4)
theorem inv_ten (v : Rat) (t : Int) : (v * (10 : Rat) ^ t)⁻¹ = v⁻¹ * (10 : Rat) ^ (-t) := by rw [Rat.inv_mul_rev, Rat.zpow_neg, Rat.mul_comm]
theorem FDiv_ev {n d t n' d' t' : Int} (i1 : I64 n) (i2 : I64 d) (i3 : I64 n') (i4 : I64 d') : ∃ r, Ev (fun k => frac_Div.f k n d t n' d' t') r ∧ DivS n d t n' d' t' r := by
  have p1 := Right_ev (t := t) i1 i2
  have p2 := Right_ev (t := t') i3 i4
  have arg : ∀ b : Bool, b = true → Ev (fun k => frac_Div.j0 k b n d t n' d' t') (0, 0, 0, 1) := fun b hb => by
    refine Ev.step (f := fun _ => some (0, 0, 0, 1)) (fun k => ?_) (Ev.now _)
    simp only [frac_Div.j0]; rw [if_pos hb]
  cases r1 : RD n d t with
  | false =>
    rw [r1] at p1
    exact ⟨_, Ev.congr (fun k => rfl) (p1.bind (Ev.congr (fun k => by rw [if_neg (by decide)]) (arg true rfl))), Or.inl ⟨by simp [r1], rfl⟩⟩
  | true =>
    rw [r1] at p1
    cases r2 : RD n' d' t' with
    | false =>
      rw [r2] at p2
      exact ⟨_, Ev.congr (fun k => rfl) (p1.bind (Ev.congr (fun k => by rw [if_pos rfl]) (p2.bind (arg _ rfl)))), Or.inl ⟨by simp [r2], rfl⟩⟩
    | true =>
      rw [r2] at p2
      have go : ∀ r, Ev (fun k => frac_Div.j0 k false n d t n' d' t') r → Ev (fun k => frac_Div.f k n d t n' d' t') r := fun r hr =>
        Ev.congr (fun k => rfl) (p1.bind (Ev.congr (fun k => by rw [if_pos rfl]) (p2.bind hr)))
      by_cases z' : n' = 0
      · refine ⟨(0, 0, 0, 11), go _ (Ev.step (f := fun _ => some (0, 0, 0, 11)) (fun k => ?_) (Ev.now _)), Or.inr (Or.inl ⟨r1, r2, z', rfl⟩)⟩
        simp only [frac_Div.j0]; rw [if_neg (by decide), if_pos z']
      · by_cases z : n = 0
        · obtain ⟨rfl, rfl⟩ := zero_right r1 z
          refine ⟨(0, 1, 0, 0), go _ (Ev.step (f := fun _ => some (0, 1, 0, 0)) (fun k => ?_) (Ev.now _)), Or.inr (Or.inr (Or.inl ⟨r1, r2, z', z, rfl⟩))⟩
          simp only [frac_Div.j0]; rw [if_neg (by decide), if_neg z', if_pos z, z]
        · have R1 := (RD_right z i2).1 r1
          have R2 := (RD_right z' i4).1 r2
          obtain ⟨u, e, s, q, hl, nf, hv, fu, fe, s1, s2, q1, q2⟩ := loose_of R1
          obtain ⟨u', e', s', q', hl', nf', hv', fu', fe', s1', s2', q1', q2'⟩ := loose_of R2
          obtain ⟨U, D, ht, nft, het, fU, fD⟩ := turned_ev nf' fu' fe' (by omega) (by omega)
          have l1 := R1.lo
          have l2 := R1.hi
          have l3 := R2.lo
          have l4 := R2.hi
          obtain ⟨r, hr, en⟩ := product_ev (ten := t - t') nf nft fu fe fU fD (by omega) (by omega) (by omega)
          have ve : ev u e s q * ev U D (-s') (-q') * (10 : Rat) ^ (t - t') = val n d t * (val n' d' t')⁻¹ := by
            rw [het, ← hv, ← hv', ev_ten, ev_ten, inv_ten, show t - t' = t + -t' by omega, Rat.zpow_add (by decide)]
            grind
          rw [ve] at en
          refine ⟨r, go _ (Ev.step (f := fun k => (frac_loosen.f k n d).bind fun c => (frac_loosen.f k n' d').bind fun c' => (frac_loose_turned.f k c'.1 c'.2.1 c'.2.2.1 c'.2.2.2).bind fun c'' => (frac_product.f k c.1 c.2.1 c.2.2.1 c.2.2.2 c''.1 c''.2.1 c''.2.2.1 c''.2.2.2 (t - t')).bind fun b => some (b.1, b.2.1, b.2.2.1, b.2.2.2)) (fun k => ?_) (hl.bind (hl'.bind (ht.bind (bind4 _ _ hr))))), Or.inr (Or.inr (Or.inr ⟨r1, r2, z', z, en⟩))⟩
          simp only [frac_Div.j0]; rw [if_neg (by decide), if_neg z', if_neg z, w64 (x := t - t') (by omega) (by omega)]
end Go.Proofs.YthfibffgmoblaaaDoor.Fr
