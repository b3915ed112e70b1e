/- Quotients of numbers' forms. Conditions: 64-bit numbers. -/
import Derived.Test.YthfibffgmoblaaaDoorFr5
import Derived.Test.YthfibffgmoblaaaDoorPDx
namespace Go.Proofs.YthfibffgmoblaaaDoor.Fr
open Go.RowKit Go.Proofs.YthfibffgmoblaaaDoor.Wh Go.Proofs.YthfibffgmoblaaaDoor.PB Go.Proofs.YthfibffgmoblaaaDoor.PC Go.Proofs.YthfibffgmoblaaaDoor.PD Go.Proofs.YthfibffgmoblaaaDoor.PD Go.Proofs.YthfibffgmoblaaaDoorW.PrintWords Go.Proofs.YthfibffgmoblaaaDoorW.PrintLast Go.Proofs.YthfibffgmoblaaaDoorW.PrintMore
set_option linter.unusedVariables false
def DivS (n d t n' d' t' : Int) (r : R4) : Prop :=
  (¬ (RD n d t = true ∧ RD n' d' t' = true) ∧ r = (0, 0, 0, 1)) ∨ (RD n d t = true ∧ RD n' d' t' = true ∧ n' = 0 ∧ r = (0, 0, 0, 11)) ∨ (RD n d t = true ∧ RD n' d' t' = true ∧ n' ≠ 0 ∧ n = 0 ∧ r = (0, 1, 0, 0)) ∨ (RD n d t = true ∧ RD n' d' t' = true ∧ n' ≠ 0 ∧ n ≠ 0 ∧ Enc (val n d t * (val n' d' t')⁻¹) r)
theorem DivS.unique {n d t n' d' t' : Int} {r r' : R4} (h : DivS n d t n' d' t' r) (h' : DivS n d t n' d' t' r') : r = r' := by
  rcases h with ⟨a, rfl⟩ | ⟨a1, a2, a3, rfl⟩ | ⟨a1, a2, a3, a4, rfl⟩ | ⟨a1, a2, a3, a4, a5⟩ <;> rcases h' with ⟨b, rfl⟩ | ⟨b1, b2, b3, rfl⟩ | ⟨b1, b2, b3, b4, rfl⟩ | ⟨b1, b2, b3, b4, b5⟩
  all_goals first | rfl | (exact Enc.unique a5 b5) | (exfalso; first | exact a ⟨b1, b2⟩ | exact b ⟨a1, a2⟩ | exact a3 b3 | exact b3 a3 | exact a4 b4 | exact b4 a4)
theorem inv_ten (v : Rat) (t : Int) : (v * (10 : Rat) ^ t)⁻¹ = v⁻¹ * (10 : Rat) ^ (-t) := by rw [Rat.inv_mul_rev, Rat.zpow_neg, Rat.mul_comm]
theorem FDiv_ev {n d t n' d' t' : Int} (i1 : I64 n) (i2 : I64 d) (i3 : I64 n') (i4 : I64 d') : ∃ r, Ev (fun k => frac_Div.f k n d t n' d' t') r ∧ DivS n d t n' d' t' r := by
  have p1 := Right_ev (t := t) i1 i2
  have p2 := Right_ev (t := t') i3 i4
  have arg : ∀ b : Bool, b = true → Ev (fun k => frac_Div.j0 k b n d t n' d' t') (0, 0, 0, 1) := fun b hb => by
    refine Ev.step (f := fun _ => some (0, 0, 0, 1)) (fun k => ?_) (Ev.now _)
    simp only [frac_Div.j0]; rw [if_pos hb]
  cases r1 : RD n d t with
  | false =>
    rw [r1] at p1
    exact ⟨_, Ev.congr (fun k => rfl) (p1.bind (Ev.congr (fun k => by rw [if_neg (by decide)]) (arg true rfl))), Or.inl ⟨by simp [r1], rfl⟩⟩
  | true =>
    rw [r1] at p1
    cases r2 : RD n' d' t' with
    | false =>
      rw [r2] at p2
      exact ⟨_, Ev.congr (fun k => rfl) (p1.bind (Ev.congr (fun k => by rw [if_pos rfl]) (p2.bind (arg _ rfl)))), Or.inl ⟨by simp [r2], rfl⟩⟩
    | true =>
      rw [r2] at p2
      have go : ∀ r, Ev (fun k => frac_Div.j0 k false n d t n' d' t') r → Ev (fun k => frac_Div.f k n d t n' d' t') r := fun r hr =>
        Ev.congr (fun k => rfl) (p1.bind (Ev.congr (fun k => by rw [if_pos rfl]) (p2.bind hr)))
      by_cases z' : n' = 0
      · refine ⟨(0, 0, 0, 11), go _ (Ev.step (f := fun _ => some (0, 0, 0, 11)) (fun k => ?_) (Ev.now _)), Or.inr (Or.inl ⟨r1, r2, z', rfl⟩)⟩
        simp only [frac_Div.j0]; rw [if_neg (by decide), if_pos z']
      · by_cases z : n = 0
        · obtain ⟨rfl, rfl⟩ := zero_right r1 z
          refine ⟨(0, 1, 0, 0), go _ (Ev.step (f := fun _ => some (0, 1, 0, 0)) (fun k => ?_) (Ev.now _)), Or.inr (Or.inr (Or.inl ⟨r1, r2, z', z, rfl⟩))⟩
          simp only [frac_Div.j0]; rw [if_neg (by decide), if_neg z', if_pos z, z]
        · have R1 := (RD_right z i2).1 r1
          have R2 := (RD_right z' i4).1 r2
          obtain ⟨u, e, s, q, hl, nf, hv, fu, fe, s1, s2, q1, q2⟩ := loose_of R1
          obtain ⟨u', e', s', q', hl', nf', hv', fu', fe', s1', s2', q1', q2'⟩ := loose_of R2
          obtain ⟨U, D, ht, nft, het, fU, fD⟩ := turned_ev nf' fu' fe' (by omega) (by omega)
          have l1 := R1.lo
          have l2 := R1.hi
          have l3 := R2.lo
          have l4 := R2.hi
          obtain ⟨r, hr, en⟩ := product_ev (ten := t - t') nf nft fu fe fU fD (by omega) (by omega) (by omega)
          have ve : ev u e s q * ev U D (-s') (-q') * (10 : Rat) ^ (t - t') = val n d t * (val n' d' t')⁻¹ := by
            rw [het, ← hv, ← hv', ev_ten, ev_ten, inv_ten, show t - t' = t + -t' by omega, Rat.zpow_add (by decide)]
            grind
          rw [ve] at en
          refine ⟨r, go _ (Ev.step (f := fun k => (frac_loosen.f k n d).bind fun c => (frac_loosen.f k n' d').bind fun c' => (frac_loose_turned.f k c'.1 c'.2.1 c'.2.2.1 c'.2.2.2).bind fun c'' => (frac_product.f k c.1 c.2.1 c.2.2.1 c.2.2.2 c''.1 c''.2.1 c''.2.2.1 c''.2.2.2 (t - t')).bind fun b => some (b.1, b.2.1, b.2.2.1, b.2.2.2)) (fun k => ?_) (hl.bind (hl'.bind (ht.bind (bind4 _ _ hr))))), Or.inr (Or.inr (Or.inr ⟨r1, r2, z', z, en⟩))⟩
          simp only [frac_Div.j0]; rw [if_neg (by decide), if_neg z', if_neg z, w64 (x := t - t') (by omega) (by omega)]
end Go.Proofs.YthfibffgmoblaaaDoor.Fr
namespace Go.Proofs.YthfibffgmoblaaaDoor.Fr
open Go.RowKit Go.Proofs.YthfibffgmoblaaaDoor.Wh Go.Proofs.YthfibffgmoblaaaDoor.PB Go.Proofs.YthfibffgmoblaaaDoor.PC Go.Proofs.YthfibffgmoblaaaDoor.PD Go.Proofs.YthfibffgmoblaaaDoor.PD Go.Proofs.YthfibffgmoblaaaDoorW.PrintWords Go.Proofs.YthfibffgmoblaaaDoorW.PrintLast Go.Proofs.YthfibffgmoblaaaDoorW.PrintMore
set_option linter.unusedVariables false
theorem pow_fit_le {x : Int} (h : x ≠ 0) {i j : Nat} (hij : i ≤ j) (hf : Fit (x ^ j)) : Fit (x ^ i) := by
  rw [fit_iff] at hf ⊢
  rw [Int.natAbs_pow] at hf ⊢
  exact Nat.le_trans (Nat.pow_le_pow_right (by omega) hij) hf
theorem mul_small {s : Int} (n : Nat) (hn : n ≤ 99) (h : -1000 ≤ s ∧ s ≤ 1000) : -99000 ≤ s * n ∧ s * n ≤ 99000 := by
  have a := Int.mul_le_mul_of_nonneg_right h.2 (show (0 : Int) ≤ n by omega)
  have b := Int.mul_le_mul_of_nonneg_right h.1 (show (0 : Int) ≤ n by omega)
  omega
theorem pow_loop {u d s t ten : Int} (x : NF u d s t) (fu : Fit u) (fd : Fit d) (bs : -1000 ≤ s ∧ s ≤ 1000) (bt : -1000 ≤ t ∧ t ≤ 1000) (bn : -1000000 ≤ ten ∧ ten ≤ 1000000) (n : Nat) (hn : n ≤ 99) :
    ∀ (j i : Nat), i + j = n → Fit (u ^ i) → Fit (d ^ i) → Ev (fun k => frac_Pow.l0 k ten n i u d s t (u ^ i) (d ^ i) (s * i) (t * i)) (enc (u ^ n) (d ^ n) (s * n + ten) (t * n + ten))
  | 0, i, hi, h1, h2 => by
    obtain rfl : i = n := by omega
    have b1 := mul_small i hn bs
    have b2 := mul_small i hn bt
    have f := form_ev (ten := ten) (show u ^ i ≠ 0 from Int.pow_ne_zero x.hu.ne) h1 h2 (s := s * i) (t := t * i) (by omega) (by omega) bn
    refine Ev.step (f := fun k => (frac_loose_form.f k (u ^ i) (d ^ i) (s * i) (t * i) ten).bind fun b => some (b.1, b.2.1, b.2.2.1, b.2.2.2)) (fun k => ?_) (bind4 _ _ f)
    simp only [frac_Pow.l0]
    rw [if_neg (by omega)]
  | j + 1, i, hi, h1, h2 => by
    have b1 := mul_small i (by omega) bs
    have b2 := mul_small i (by omega) bt
    have y := nf_pow x i
    obtain ⟨r, U, D, ht, nf, e, g1, g2⟩ := times_ev y.1 x h1 h2 fu fd (by omega) (by omega)
    have z := nf_pow x (i + 1)
    have cs : ∀ w : Int, w * ((i + 1 : Nat) : Int) = w * i + w := fun w => by rw [Int.natCast_add]; grind
    rw [cs, cs] at z
    obtain ⟨rfl, rfl, _, _⟩ := nf_unique nf z.1 (by rw [e, y.2, z.2, Rat.pow_succ])
    by_cases c : Fit (u ^ (i + 1)) ∧ Fit (d ^ (i + 1))
    · have ih := pow_loop x fu fd bs bt bn n hn j (i + 1) (by omega) c.1 c.2
      rw [cs, cs] at ih
      rw [g1 c] at ht
      refine Ev.step (f := fun k => (frac_loose_times.f k (u ^ i) (d ^ i) (s * i) (t * i) u d s t).bind fun b => if b.2.2.2.2 = true then frac_Pow.l0 k ten n ((i + 1 : Nat) : Int) u d s t b.1 b.2.1 b.2.2.1 b.2.2.2.1 else some (0, 0, 0, 10)) (fun k => ?_) (ht.bind (Ev.congr (fun k => by rw [if_pos (by rfl)]) ih))
      simp only [frac_Pow.l0]
      rw [if_pos (by omega), wsucc (by omega)]
    · have w := g2 c
      have ov : ¬ Fit (u ^ n) ∨ ¬ Fit (d ^ n) := by
        by_cases q : Fit (u ^ n)
        · exact Or.inr fun q2 => c ⟨pow_fit_le x.hu.ne (by omega) q, pow_fit_le x.hd.ne (by omega) q2⟩
        · exact Or.inl q
      rw [enc_over ov]
      refine Ev.step (f := fun k => (frac_loose_times.f k (u ^ i) (d ^ i) (s * i) (t * i) u d s t).bind fun b => if b.2.2.2.2 = true then frac_Pow.l0 k ten n ((i + 1 : Nat) : Int) u d s t b.1 b.2.1 b.2.2.1 b.2.2.2.1 else some (0, 0, 0, 10)) (fun k => ?_) (ht.bind (Ev.congr (f := fun _ => some (0, 0, 0, 10)) (fun k => by rw [if_neg (by rw [w]; decide)]) (Ev.now _)))
      simp only [frac_Pow.l0]
      rw [if_pos (by omega), wsucc (by omega)]
def pv (v : Rat) (m : Int) : Rat := if 0 ≤ m then v ^ m.toNat else (v⁻¹) ^ (-m).toNat
def PowS (n d t m : Int) (r : R4) : Prop :=
  (¬ (RD n d t = true ∧ -99 ≤ m ∧ m ≤ 99) ∧ r = (0, 0, 0, 1)) ∨ (RD n d t = true ∧ (-99 ≤ m ∧ m ≤ 99) ∧ m < 0 ∧ n = 0 ∧ r = (0, 0, 0, 11)) ∨ (RD n d t = true ∧ (-99 ≤ m ∧ m ≤ 99) ∧ m = 0 ∧ r = (1, 1, 0, 0)) ∨ (RD n d t = true ∧ (-99 ≤ m ∧ m ≤ 99) ∧ 0 < m ∧ n = 0 ∧ r = (0, 1, 0, 0)) ∨ (RD n d t = true ∧ (-99 ≤ m ∧ m ≤ 99) ∧ m ≠ 0 ∧ n ≠ 0 ∧ Enc (pv (val n d t) m) r)
theorem PowS.unique {n d t m : Int} {r r' : R4} (h : PowS n d t m r) (h' : PowS n d t m r') : r = r' := by
  rcases h with ⟨a, rfl⟩ | ⟨a1, a2, a3, a4, rfl⟩ | ⟨a1, a2, a3, rfl⟩ | ⟨a1, a2, a3, a4, rfl⟩ | ⟨a1, a2, a3, a4, a5⟩ <;> rcases h' with ⟨b, rfl⟩ | ⟨b1, b2, b3, b4, rfl⟩ | ⟨b1, b2, b3, rfl⟩ | ⟨b1, b2, b3, b4, rfl⟩ | ⟨b1, b2, b3, b4, b5⟩
  all_goals first | rfl | (exact Enc.unique a5 b5) | (exfalso; first | exact a ⟨b1, b2⟩ | exact b ⟨a1, a2⟩ | omega)
theorem pow_enc {u d s t ten : Int} (x : NF u d s t) (n : Nat) (v : Rat) (hv : ev u d (s + ten) (t + ten) = v) : Enc (v ^ n) (enc (u ^ n) (d ^ n) (s * n + ten * n) (t * n + ten * n)) := by
  have h := nf_pow (nf_shift x (s + ten) (t + ten)) n
  rw [Int.add_mul, Int.add_mul, hv] at h
  exact ⟨_, _, _, _, h.1, h.2, rfl⟩
theorem FPow_ev {n d t m : Int} (i1 : I64 n) (i2 : I64 d) : ∃ r, Ev (fun k => frac_Pow.f k n d t m) r ∧ PowS n d t m r := by
  have p1 := Right_ev (t := t) i1 i2
  have arg : ∀ b : Bool, b = true → Ev (fun k => frac_Pow.j0 k m b n d t) (0, 0, 0, 1) := fun b hb => by
    refine Ev.step (f := fun _ => some (0, 0, 0, 1)) (fun k => ?_) (Ev.now _)
    simp only [frac_Pow.j0]; rw [if_pos hb]
  cases r1 : RD n d t with
  | false =>
    rw [r1] at p1
    exact ⟨_, Ev.congr (fun k => rfl) (p1.bind (Ev.congr (fun k => by rw [if_neg (by decide)]) (arg true rfl))), Or.inl ⟨by simp [r1], rfl⟩⟩
  | true =>
    rw [r1] at p1
    by_cases m1 : m < -99
    · exact ⟨_, Ev.congr (fun k => rfl) (p1.bind (Ev.congr (fun k => by rw [if_pos rfl, if_pos m1]) (arg true rfl))), Or.inl ⟨by omega, rfl⟩⟩
    · by_cases m2 : m > 99
      · exact ⟨_, Ev.congr (fun k => rfl) (p1.bind (Ev.congr (fun k => by rw [if_pos rfl, if_neg m1]) (arg _ (decide_eq_true m2)))), Or.inl ⟨by omega, rfl⟩⟩
      · have rg : -99 ≤ m ∧ m ≤ 99 := by omega
        have go : ∀ b r, (b = true ↔ (n = 0 ∧ m < 0)) → Ev (fun k => frac_Pow.j1 k m b n d t) r → Ev (fun k => frac_Pow.f k n d t m) r := fun b r hb hr => by
          refine Ev.congr (fun k => rfl) (p1.bind (Ev.congr (fun k => by rw [if_pos rfl, if_neg m1, decide_eq_false m2]) (Ev.step (fun k => ?_) hr)))
          show frac_Pow.j0 (k + 1) m false n d t = _
          simp only [frac_Pow.j0]
          rw [if_neg (by decide)]
          by_cases c : n = 0
          · rw [if_pos c]
            congr 1
            by_cases c' : m < 0
            · rw [hb.2 ⟨c, c'⟩, decide_eq_true c']
            · have : b = false := by cases b with | true => exact absurd (hb.1 rfl).2 c' | false => rfl
              rw [this, decide_eq_false c']
          · rw [if_neg c]
            have : b = false := by cases b with | true => exact absurd (hb.1 rfl).1 c | false => rfl
            rw [this]
        by_cases z1 : n = 0 ∧ m < 0
        · refine ⟨(0, 0, 0, 11), go true _ (by simp [z1]) (Ev.step (f := fun _ => some (0, 0, 0, 11)) (fun k => ?_) (Ev.now _)), Or.inr (Or.inl ⟨r1, rg, z1.2, z1.1, rfl⟩)⟩
          simp only [frac_Pow.j1]; rw [if_pos trivial]
        · have nb : (false = true ↔ (n = 0 ∧ m < 0)) := by simp [z1]
          by_cases z2 : m = 0
          · refine ⟨(1, 1, 0, 0), go false _ nb (Ev.step (f := fun _ => some (1, 1, 0, 0)) (fun k => ?_) (Ev.now _)), Or.inr (Or.inr (Or.inl ⟨r1, rg, z2, rfl⟩))⟩
            simp only [frac_Pow.j1]; rw [if_neg (by decide), if_pos z2]
          · by_cases z : n = 0
            · obtain ⟨rfl, rfl⟩ := zero_right r1 z
              refine ⟨(0, 1, 0, 0), go false _ nb (Ev.step (f := fun _ => some (0, 1, 0, 0)) (fun k => ?_) (Ev.now _)), Or.inr (Or.inr (Or.inr (Or.inl ⟨r1, rg, by omega, z, rfl⟩)))⟩
              simp only [frac_Pow.j1]; rw [if_neg (by decide), if_neg z2, if_pos z, z]
            · have R1 := (RD_right z i2).1 r1
              obtain ⟨u, e, s, q, hl, nf, hv, fu, fe, s1, s2, q1, q2⟩ := loose_of R1
              have l1 := R1.lo
              have l2 := R1.hi
              have one : ∀ w : Int, (1 : Int) = w ^ 0 ∧ (0 : Int) = w * ((0 : Nat) : Int) := fun w => ⟨by simp, by simp⟩
              have start : ∀ {U D S T ten : Int} (x : NF U D S T) (fU : Fit U) (fD : Fit D) (bs : -1000 ≤ S ∧ S ≤ 1000) (bt : -1000 ≤ T ∧ T ≤ 1000) (bn : -1000000 ≤ ten ∧ ten ≤ 1000000) (M : Nat) (hM : M ≤ 99), Ev (fun k => frac_Pow.j2 k M ten U D S T) (enc (U ^ M) (D ^ M) (S * M + ten) (T * M + ten)) := by
                intro U D S T ten x fU fD bs bt bn M hM
                have := pow_loop x fU fD bs bt bn M hM M 0 (by omega) (by simp; decide) (by simp; decide)
                refine Ev.step (fun k => ?_) this
                simp only [frac_Pow.j2, Int.pow_zero]
                simp
              by_cases neg : m < 0
              · obtain ⟨M, hM⟩ := Int.eq_ofNat_of_zero_le (show 0 ≤ -m by omega)
                obtain ⟨U, D, ht, nft, het, fU, fD⟩ := turned_ev nf fu fe (by omega) (by omega)
                have bm := mul_small (s := t) M (by omega) ⟨l1, l2⟩
                have tm : t * m = -t * M := by rw [show m = -(M : Int) by omega, Int.mul_neg, Int.neg_mul]
                have tm' : -t * (M : Int) = -(t * M) := Int.neg_mul _ _
                have st := start nft fU fD (ten := t * m) (by omega) (by omega) (by omega) M (by omega)
                have hv' : ev U D (-s + -t) (-q + -t) = (val n d t)⁻¹ := by rw [← hv, ev_ten, ev_ten, het, inv_ten]
                have en := pow_enc nft M _ hv'
                rw [← tm] at en
                refine ⟨_, go false _ nb (Ev.step (f := fun k => (frac_loosen.f k n d).bind fun c => if m < 0 then (frac_loose_turned.f k c.1 c.2.1 c.2.2.1 c.2.2.2).bind fun c' => frac_Pow.j2 k M (t * m) c'.1 c'.2.1 c'.2.2.1 c'.2.2.2 else frac_Pow.j2 k m (t * m) c.1 c.2.1 c.2.2.1 c.2.2.2) (fun k => ?_) (hl.bind (Ev.congr (fun k => by rw [if_pos neg]) (ht.bind st)))), Or.inr (Or.inr (Or.inr (Or.inr ⟨r1, rg, z2, z, ?_⟩)))⟩
                · simp only [frac_Pow.j1]
                  rw [if_neg (by decide), if_neg z2, if_neg z, w64 (x := -m) (by omega) (by omega), w64 (x := t * m) (by omega) (by omega), hM]
                · unfold pv; rw [if_neg (by omega), hM, Int.toNat_natCast]; exact en
              · obtain ⟨M, hM⟩ := Int.eq_ofNat_of_zero_le (show 0 ≤ m by omega)
                subst hM
                have bm := mul_small (s := t) M (by omega) ⟨l1, l2⟩
                have st := start nf fu fe (ten := t * M) (by omega) (by omega) (by omega) M (by omega)
                have en := pow_enc nf M _ hv
                refine ⟨_, go false _ nb (Ev.step (f := fun k => (frac_loosen.f k n d).bind fun c => if (M : Int) < 0 then (frac_loose_turned.f k c.1 c.2.1 c.2.2.1 c.2.2.2).bind fun c' => frac_Pow.j2 k (-(M : Int)) (t * M) c'.1 c'.2.1 c'.2.2.1 c'.2.2.2 else frac_Pow.j2 k M (t * M) c.1 c.2.1 c.2.2.1 c.2.2.2) (fun k => ?_) (hl.bind (Ev.congr (fun k => by rw [if_neg neg]) st))), Or.inr (Or.inr (Or.inr (Or.inr ⟨r1, rg, z2, z, ?_⟩)))⟩
                · simp only [frac_Pow.j1]
                  rw [if_neg (by decide), if_neg z2, if_neg z, w64 (x := -(M : Int)) (by omega) (by omega), w64 (x := t * M) (by omega) (by omega)]
                · unfold pv; rw [if_pos (by omega), Int.toNat_natCast]; exact en
end Go.Proofs.YthfibffgmoblaaaDoor.Fr
