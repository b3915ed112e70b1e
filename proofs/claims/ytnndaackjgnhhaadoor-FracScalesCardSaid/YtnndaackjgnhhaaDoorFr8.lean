/- What the reference's Mul, Div and Pow come to: the same as the program's. Conditions: 64-bit numbers. -/
import Derived.Test.YtnndaackjgnhhaaDoorFr7
namespace Go.Proofs.YtnndaackjgnhhaaDoor.Fr
open Go.RowKit Go.Proofs.YtnndaackjgnhhaaDoor.Wh Go.Proofs.YtnndaackjgnhhaaDoor.PB Go.Proofs.YtnndaackjgnhhaaDoor.PC Go.Proofs.YtnndaackjgnhhaaDoor.PD Go.Proofs.YtnndaackjgnhhaaDoorW.PrintWords Go.Proofs.YtnndaackjgnhhaaDoorW.PrintLast Go.Proofs.YtnndaackjgnhhaaDoorW.PrintMore
set_option linter.unusedVariables false
theorem of_right {n d t : Int} (h : RightP n d t) : ∃ sg p q s t', Ev (fun k => drachmref02_of.f k n d) (sg, p, q, s, t') ∧ Sg sg ∧ 0 < p ∧ NF (sg * p) q s t' ∧ ev (sg * p) q (s + t) (t' + t) = val n d t ∧ Fit p ∧ Fit q ∧ -63 ≤ s ∧ s ≤ 63 ∧ -63 ≤ t' ∧ t' ≤ 63 ∧ 0 < q := by
  obtain ⟨sg, p, q, s, t', hl, hs, hp, nf, e, r⟩ := of_ev h.nz h.fn (show d ≠ 0 by have := h.pos; omega) h.fd
  exact ⟨sg, p, q, s, t', hl, hs, hp, nf, by rw [ev_ten, e]; rfl, r⟩
theorem NF.abs {sg p q s t : Int} (hs : Sg sg) (x : NF (sg * p) q s t) : NF p q s t ∧ ev (sg * p) q s t = sg * ev p q s t := by
  have h : NF p q s t := by
    rcases hs with rfl | rfl
    · rw [Int.one_mul] at x; exact x
    · rw [show -1 * p = -p by omega] at x
      exact ⟨by have := x.hu.neg; rwa [Int.neg_neg] at this, x.hd, x.pos, by have := x.co; rwa [Int.natAbs_neg] at this⟩
  exact ⟨h, (hs.nf h).2⟩
theorem reftimes_ev {sg p q s t sg' p' q' s' t' ten : Int} (h1 : Sg sg) (h2 : Sg sg') (hp : 0 < p) (hp' : 0 < p') (x : NF (sg * p) q s t) (y : NF (sg' * p') q' s' t') (fp : Fit p) (fq : Fit q) (fp' : Fit p') (fq' : Fit q')
    (bs : -1000 ≤ s ∧ s ≤ 1000 ∧ -1000 ≤ s' ∧ s' ≤ 1000) (bt : -1000 ≤ t ∧ t ≤ 1000 ∧ -1000 ≤ t' ∧ t' ≤ 1000) (bn : -2000 ≤ ten ∧ ten ≤ 2000) :
    ∃ r, Ev (fun k => drachmref02_times.f k sg p q s t sg' p' q' s' t' ten) r ∧ Enc (ev (sg * p) q s t * ev (sg' * p') q' s' t' * (10 : Rat) ^ ten) r := by
  obtain ⟨x0, xe⟩ := NF.abs h1 x
  obtain ⟨y0, ye⟩ := NF.abs h2 y
  obtain ⟨g, h, u1, d1, u1', d1', eg, eh, hg, hh, hgl, hhl, q1, q2, q3, q4, f1, f2, f3, f4, nf, e, up, up', dp, dp'⟩ := prod_parts x0 y0 fp fq fp' fq'
  have hs := h1.mul h2
  have n := hs.nf nf
  have en : Enc (ev (sg * p) q s t * ev (sg' * p') q' s' t' * (10 : Rat) ^ ten) (enc (sg * sg' * (u1 * u1')) (d1 * d1') (s + s' + ten) (t + t' + ten)) := by
    refine ⟨_, _, _, _, nf_shift n.1 _ _, ?_, rfl⟩
    rw [ev_ten, n.2, e, xe, ye, Rat.intCast_mul]
    grind
  refine ⟨_, ?_, en⟩
  have p1 := refGcd_ev p q' fp.i64 fq'.i64
  have p2 := refGcd_ev p' q fp'.i64 fq.i64
  rw [eg] at p1
  rw [eh] at p2
  have m1 := refMul_ev u1 u1' f1.i64 f2.i64
  have m2 := refMul_ev d1 d1' f3.i64 f4.i64
  have w1 : wrap64 (s + s') = s + s' := w64 (by omega) (by omega)
  have w2 : wrap64 (t + t') = t + t' := w64 (by omega) (by omega)
  have wu := w64 (x := u1) (by unfold Fit at f1; omega) (by unfold Fit at f1; omega)
  have wu' := w64 (x := u1') (by unfold Fit at f2; omega) (by unfold Fit at f2; omega)
  have wd := w64 (x := d1) (by unfold Fit at f3; omega) (by unfold Fit at f3; omega)
  have wd' := w64 (x := d1') (by unfold Fit at f4; omega) (by unfold Fit at f4; omega)
  have ws : wrap64 (sg * sg') = sg * sg' := by unfold Sg at hs; exact w64 (by omega) (by omega)
  refine Ev.congr (fun k => rfl) (p1.bind (p2.bind (Ev.congr (f := fun k => (drachmref01_Mul.f k u1 u1').bind fun bt1 => (drachmref01_Mul.f k d1 d1').bind fun bt2 => if bt1.2 = true then (if bt2.2 = true then (drachmref02_form.f k (sg * sg') bt1.1 bt2.1 (s + s') (t + t') ten).bind fun b => some (b.1, b.2.1, b.2.2.1, b.2.2.2) else some (0, 0, 0, 10)) else some (0, 0, 0, 10)) (fun k => ?_) (m1.bind (m2.bind ?_)))))
  · show (if g = 0 then none else _) = _
    rw [if_neg (by omega), if_neg (by omega), q1, q2, q3, q4, wu, wu', wd, wd', w1, w2, ws]
  · by_cases c1 : Fit (u1 * u1')
    · by_cases c2 : Fit (d1 * d1')
      · rw [mulF_fit f1 f2 c1, mulF_fit f3 f4 c2]
        have f := refform_ev (ten := ten) hs (Int.mul_pos (up hp) (up' hp')) c1 c2 (s := s + s') (t := t + t') (by omega) (by omega) (Or.inl bn)
        exact Ev.congr (fun k => by rw [if_pos (by rfl), if_pos (by rfl)]) (bind4 _ _ f)
      · rw [mulF_fit f1 f2 c1, mulF_not c2, enc_over (Or.inr c2)]
        exact Ev.congr (f := fun _ => some (0, 0, 0, 10)) (fun k => by rw [if_pos (by rfl), if_neg (by decide)]) (Ev.now _)
    · rw [mulF_not c1, enc_over (Or.inl (fun z => c1 (hs.fit.1 z)))]
      exact Ev.congr (f := fun _ => some (0, 0, 0, 10)) (fun k => by rw [if_neg (by decide)]) (Ev.now _)
theorem RMul_ev {n d t n' d' t' : Int} (i1 : I64 n) (i2 : I64 d) (i3 : I64 n') (i4 : I64 d') : ∃ r, Ev (fun k => drachmref02_Mul.f k n d t n' d' t') r ∧ MulS n d t n' d' t' r := by
  have p1 := refRight_ev (t := t) i1 i2
  have p2 := refRight_ev (t := t') i3 i4
  have arg : ∀ b : Bool, b = true → Ev (fun k => drachmref02_Mul.j0 k b n d t n' d' t') (0, 0, 0, 1) := fun b hb => by
    refine Ev.step (f := fun _ => some (0, 0, 0, 1)) (fun k => ?_) (Ev.now _)
    simp only [drachmref02_Mul.j0]; rw [if_pos hb]
  cases r1 : RD n d t with
  | false =>
    rw [r1] at p1
    exact ⟨_, Ev.congr (fun k => rfl) (p1.bind (p2.bind (Ev.congr (fun k => by rw [if_neg (by decide)]) (arg true rfl)))), Or.inl ⟨by simp [r1], rfl⟩⟩
  | true =>
    rw [r1] at p1
    cases r2 : RD n' d' t' with
    | false =>
      rw [r2] at p2
      exact ⟨_, Ev.congr (fun k => rfl) (p1.bind (p2.bind (Ev.congr (fun k => by rw [if_pos rfl]; rfl) (arg _ rfl)))), Or.inl ⟨by simp [r2], rfl⟩⟩
    | true =>
      rw [r2] at p2
      have go : ∀ b r, (b = true ↔ (n = 0 ∨ n' = 0)) → Ev (fun k => drachmref02_Mul.j1 k b n d t n' d' t') r → Ev (fun k => drachmref02_Mul.f k n d t n' d' t') r := fun b r hb hr => by
        refine Ev.congr (fun k => rfl) (p1.bind (p2.bind (Ev.congr (fun k => by rw [if_pos rfl]) (Ev.step (fun k => ?_) hr))))
        show drachmref02_Mul.j0 (k + 1) false n d t n' d' t' = _
        simp only [drachmref02_Mul.j0]
        rw [if_neg (by decide)]
        by_cases c : n = 0
        · rw [if_pos c, hb.2 (Or.inl c)]
        · rw [if_neg c]
          congr 1
          by_cases c' : n' = 0
          · rw [hb.2 (Or.inr c')]; simpa using c'
          · have : b = false := by cases b with | true => exact absurd (hb.1 rfl) (fun h => h.elim c c') | false => rfl
            rw [this]; simpa using c'
      by_cases z : n = 0 ∨ n' = 0
      · refine ⟨(0, 1, 0, 0), go true _ (by simp [z]) (Ev.step (f := fun _ => some (0, 1, 0, 0)) (fun k => ?_) (Ev.now _)), Or.inr (Or.inl ⟨r1, r2, z, rfl⟩)⟩
        simp only [drachmref02_Mul.j1]; rw [if_pos trivial]
      · have R1 := (RD_right (fun h => z (Or.inl h)) i2).1 r1
        have R2 := (RD_right (fun h => z (Or.inr h)) i4).1 r2
        obtain ⟨sg, p, e, s, q, hl, hs, hp, nf, hv, fp, fe, s1, s2, q1, q2, hq⟩ := of_right R1
        obtain ⟨sg', p', e', s', q', hl', hs', hp', nf', hv', fp', fe', s1', s2', q1', q2', hq'⟩ := of_right R2
        have l1 := R1.lo
        have l2 := R1.hi
        have l3 := R2.lo
        have l4 := R2.hi
        obtain ⟨r, hr, en⟩ := reftimes_ev (ten := t + t') hs hs' hp hp' nf nf' fp fe fp' fe' (by omega) (by omega) (by omega)
        rw [val_mul hv hv'] at en
        refine ⟨r, go false _ (by simp [z]) (Ev.step (f := fun k => (drachmref02_of.f k n d).bind fun c => (drachmref02_of.f k n' d').bind fun c' => (drachmref02_times.f k c.1 c.2.1 c.2.2.1 c.2.2.2.1 c.2.2.2.2 c'.1 c'.2.1 c'.2.2.1 c'.2.2.2.1 c'.2.2.2.2 (t + t')).bind fun b => some (b.1, b.2.1, b.2.2.1, b.2.2.2)) (fun k => ?_) (hl.bind (hl'.bind (bind4 _ _ hr)))), Or.inr (Or.inr ⟨r1, r2, z, en⟩)⟩
        simp only [drachmref02_Mul.j1]; rw [if_neg (by decide), w64 (x := t + t') (by omega) (by omega)]
/-- turned: 1 by it -/
theorem refturned {sg p q s t : Int} (hs : Sg sg) (hp : 0 < p) (x : NF (sg * p) q s t) : NF (sg * q) p (-s) (-t) ∧ ev (sg * q) p (-s) (-t) = (ev (sg * p) q s t)⁻¹ := by
  have hq := x.pos
  refine nf_inv x _ _ ?_
  rcases hs with rfl | rfl
  · left; omega
  · right; omega
theorem refturned_f {sg p q s t : Int} (bs : -1000000 ≤ s ∧ s ≤ 1000000) (bt : -1000000 ≤ t ∧ t ≤ 1000000) : drachmref02_turned.f sg p q s t = some (sg, q, p, -s, -t) := by
  unfold drachmref02_turned.f
  rw [w64 (x := -s) (by omega) (by omega), w64 (x := -t) (by omega) (by omega)]
theorem RDiv_ev {n d t n' d' t' : Int} (i1 : I64 n) (i2 : I64 d) (i3 : I64 n') (i4 : I64 d') : ∃ r, Ev (fun k => drachmref02_Div.f k n d t n' d' t') r ∧ DivS n d t n' d' t' r := by
  have p1 := refRight_ev (t := t) i1 i2
  have p2 := refRight_ev (t := t') i3 i4
  have arg : ∀ b : Bool, b = true → Ev (fun k => drachmref02_Div.j0 k b n d t n' d' t') (0, 0, 0, 1) := fun b hb => by
    refine Ev.step (f := fun _ => some (0, 0, 0, 1)) (fun k => ?_) (Ev.now _)
    simp only [drachmref02_Div.j0]; rw [if_pos hb]
  cases r1 : RD n d t with
  | false =>
    rw [r1] at p1
    exact ⟨_, Ev.congr (fun k => rfl) (p1.bind (p2.bind (Ev.congr (fun k => by rw [if_neg (by decide)]) (arg true rfl)))), Or.inl ⟨by simp [r1], rfl⟩⟩
  | true =>
    rw [r1] at p1
    cases r2 : RD n' d' t' with
    | false =>
      rw [r2] at p2
      exact ⟨_, Ev.congr (fun k => rfl) (p1.bind (p2.bind (Ev.congr (fun k => by rw [if_pos rfl]; rfl) (arg _ rfl)))), Or.inl ⟨by simp [r2], rfl⟩⟩
    | true =>
      rw [r2] at p2
      have go : ∀ r, Ev (fun k => drachmref02_Div.j0 k false n d t n' d' t') r → Ev (fun k => drachmref02_Div.f k n d t n' d' t') r := fun r hr =>
        Ev.congr (fun k => rfl) (p1.bind (p2.bind (Ev.congr (fun k => by rw [if_pos rfl]; rfl) hr)))
      by_cases z' : n' = 0
      · refine ⟨(0, 0, 0, 11), go _ (Ev.step (f := fun _ => some (0, 0, 0, 11)) (fun k => ?_) (Ev.now _)), Or.inr (Or.inl ⟨r1, r2, z', rfl⟩)⟩
        simp only [drachmref02_Div.j0]; rw [if_neg (by decide), if_pos z']
      · by_cases z : n = 0
        · refine ⟨(0, 1, 0, 0), go _ (Ev.step (f := fun _ => some (0, 1, 0, 0)) (fun k => ?_) (Ev.now _)), Or.inr (Or.inr (Or.inl ⟨r1, r2, z', z, rfl⟩))⟩
          simp only [drachmref02_Div.j0]; rw [if_neg (by decide), if_neg z', if_pos z]
        · have R1 := (RD_right z i2).1 r1
          have R2 := (RD_right z' i4).1 r2
          obtain ⟨sg, p, e, s, q, hl, hs, hp, nf, hv, fp, fe, s1, s2, q1, q2, hq⟩ := of_right R1
          obtain ⟨sg', p', e', s', q', hl', hs', hp', nf', hv', fp', fe', s1', s2', q1', q2', hq'⟩ := of_right R2
          obtain ⟨nft, het⟩ := refturned hs' hp' nf'
          have l1 := R1.lo
          have l2 := R1.hi
          have l3 := R2.lo
          have l4 := R2.hi
          obtain ⟨r, hr, en⟩ := reftimes_ev (ten := t - t') hs hs' hp hq' nf nft fp fe fe' fp' (by omega) (by omega) (by omega)
          have ve : ev (sg * p) e s q * ev (sg' * e') p' (-s') (-q') * (10 : Rat) ^ (t - t') = val n d t * (val n' d' t')⁻¹ := by
            rw [het, ← hv, ← hv', ev_ten, ev_ten, inv_ten, show t - t' = t + -t' by omega, Rat.zpow_add (by decide)]
            grind
          rw [ve] at en
          refine ⟨r, go _ (Ev.step (f := fun k => (drachmref02_of.f k n d).bind fun c => (drachmref02_of.f k n' d').bind fun c' => (drachmref02_turned.f c'.1 c'.2.1 c'.2.2.1 c'.2.2.2.1 c'.2.2.2.2).bind fun c'' => (drachmref02_times.f k c.1 c.2.1 c.2.2.1 c.2.2.2.1 c.2.2.2.2 c''.1 c''.2.1 c''.2.2.1 c''.2.2.2.1 c''.2.2.2.2 (t - t')).bind fun b => some (b.1, b.2.1, b.2.2.1, b.2.2.2)) (fun k => ?_) (hl.bind (hl'.bind (Ev.congr (fun k => by have h_ := refturned_f (sg := sg') (p := p') (q := e') (s := s') (t := q') (by omega) (by omega); simp only [h_, bs_]) (bind4 _ _ hr))))), Or.inr (Or.inr (Or.inr ⟨r1, r2, z', z, en⟩))⟩
          simp only [drachmref02_Div.j0]; rw [if_neg (by decide), if_neg z', if_neg z, w64 (x := t - t') (by omega) (by omega)]
end Go.Proofs.YtnndaackjgnhhaaDoor.Fr
