/- What the reference's Pow comes to, and a law's number: the same as the program's. Conditions: 64-bit numbers. -/
import Derived.Test.YtnndaackjgnhhaaDoorFr8
namespace Go.Proofs.YtnndaackjgnhhaaDoor.Fr
open Go.RowKit Go.Proofs.YtnndaackjgnhhaaDoor.Wh Go.Proofs.YtnndaackjgnhhaaDoor.PB Go.Proofs.YtnndaackjgnhhaaDoor.PC Go.Proofs.YtnndaackjgnhhaaDoor.PD Go.Proofs.YtnndaackjgnhhaaDoorW.PrintWords Go.Proofs.YtnndaackjgnhhaaDoorW.PrintLast Go.Proofs.YtnndaackjgnhhaaDoorW.PrintMore
set_option linter.unusedVariables false
theorem pow_big {u a : Int} (hu : u ≠ 0) (ha : 2 ≤ a.natAbs) {w : Nat} (hw : 1000 < w) (b : Int) (hb : b ≠ 0) : ¬ Fit (u * a ^ w * b) := by
  rw [fit_iff, Int.natAbs_mul, Int.natAbs_mul, Int.natAbs_pow]
  have h1 : 2 ^ 64 ≤ a.natAbs ^ w := Nat.le_trans (Nat.pow_le_pow_right (by decide) (show 64 ≤ w by omega)) (Nat.pow_le_pow_left ha w)
  have h2 : a.natAbs ^ w ≤ u.natAbs * a.natAbs ^ w := Nat.le_mul_of_pos_left _ (by omega)
  have h3 : u.natAbs * a.natAbs ^ w ≤ u.natAbs * a.natAbs ^ w * b.natAbs := Nat.le_mul_of_pos_right _ (by omega)
  omega
theorem pow_far {u d S T ten : Int} (hu : u ≠ 0) (h : ten < -2000 ∨ ten > 2000) (hST : (0 ≤ S ∧ 0 ≤ T ∧ (S = 0 ∨ T = 0)) ∨ (S ≤ 0 ∧ T ≤ 0 ∧ (S = 0 ∨ T = 0))) : enc u d (S + ten) (T + ten) = (0, 0, 0, 10) := by
  unfold enc
  rw [nm_ten, lw_ten, if_neg]
  rintro ⟨h1, _, h2, h3⟩
  have l : (0 ≤ S ∧ 0 ≤ T ∧ lw S T = 0) ∨ (lw S T = S ∧ T = 0 ∧ S ≤ 0) ∨ (lw S T = T ∧ S = 0 ∧ T ≤ 0) := by
    unfold lw
    by_cases g : T < S
    · rw [if_pos g]; omega
    · rw [if_neg g]; omega
  rcases l with ⟨_, _, l⟩ | ⟨l, e, l0⟩ | ⟨l, e, l0⟩
  · omega
  · unfold nm at h1
    rw [l, e, Int.sub_self, Int.toNat_zero, Int.pow_zero, Int.mul_one] at h1
    have : 1000 < (0 - S).toNat := by omega
    have := pow_big hu (a := 5) (by decide) this 1 (by decide)
    rw [Int.mul_one] at this
    exact this h1
  · unfold nm at h1
    rw [l, e, Int.sub_self, Int.toNat_zero, Int.pow_zero, Int.mul_one] at h1
    have : 1000 < (0 - T).toNat := by omega
    have := pow_big hu (a := 2) (by decide) this 1 (by decide)
    rw [Int.mul_one] at this
    exact this h1
theorem refpow_loop {sg p q s t ten S T M : Int} (hs : Sg sg) (hp : 0 < p) (hq : 0 < q) (fp : Fit p) (fq : Fit q) (bS : -100000 ≤ S ∧ S ≤ 100000) (bT : -100000 ≤ T ∧ T ≤ 100000) (n : Nat) (hn : n ≤ 99) (hM : M = n)
    (hten : (-2000 ≤ ten ∧ ten ≤ 2000) ∨ enc (sg ^ n * p ^ n) (q ^ n) (S + ten) (T + ten) = (0, 0, 0, 10)) :
    ∀ (j i : Nat), i + j = n → Fit (p ^ i) → Fit (q ^ i) → Ev (fun k => drachmref02_Pow.l0 k M ten i sg p q s t (sg ^ i) (p ^ i) (q ^ i) S T) (enc (sg ^ n * p ^ n) (q ^ n) (S + ten) (T + ten))
  | 0, i, hi, h1, h2 => by
    obtain rfl : i = n := by omega
    have f := refform_ev (ten := ten) (hs.pow i) (Int.pow_pos hp) h1 h2 bS bT hten
    refine Ev.step (f := fun k => (drachmref02_form.f k (sg ^ i) (p ^ i) (q ^ i) S T ten).bind fun b => some (b.1, b.2.1, b.2.2.1, b.2.2.2)) (fun k => ?_) (bind4 _ _ f)
    simp only [drachmref02_Pow.l0]
    rw [if_neg (by omega)]
  | j + 1, i, hi, h1, h2 => by
    have m1 := refMul_ev (p ^ i) p h1.i64 fp.i64
    have m2 := refMul_ev (q ^ i) q h2.i64 fq.i64
    rw [show p ^ i = p ^ i from rfl] at m1
    have e1 : p ^ i * p = p ^ (i + 1) := (Int.pow_succ p i).symm
    have e2 : q ^ i * q = q ^ (i + 1) := (Int.pow_succ q i).symm
    have e3 : sg ^ i * sg = sg ^ (i + 1) := (Int.pow_succ sg i).symm
    have w3 : wrap64 (sg ^ i * sg) = sg ^ (i + 1) := by
      rw [e3]; have := hs.pow (i + 1); unfold Sg at this; exact w64 (by omega) (by omega)
    have shape : ∀ r, Ev (fun k => (drachmref01_Mul.f k (p ^ i) p).bind fun bt248 => ((drachmref01_Mul.f k (q ^ i) q).bind fun bt251 => (if bt248.2 = true then (if bt251.2 = true then (drachmref02_Pow.l0 k M ten ((i + 1 : Nat) : Int) sg p q s t (sg ^ (i + 1)) bt248.1 bt251.1 S T) else (some (0, 0, 0, 10))) else (some (0, 0, 0, 10))))) r →
        Ev (fun k => drachmref02_Pow.l0 k M ten i sg p q s t (sg ^ i) (p ^ i) (q ^ i) S T) r := fun r hr => by
      refine Ev.step (fun k => ?_) hr
      simp only [drachmref02_Pow.l0]
      rw [if_pos (by omega), wsucc (by omega), w3]
    refine shape _ (m1.bind (m2.bind ?_))
    by_cases c1 : Fit (p ^ (i + 1))
    · by_cases c2 : Fit (q ^ (i + 1))
      · have ih := refpow_loop (s := s) (t := t) hs hp hq fp fq bS bT n hn hM hten j (i + 1) (by omega) c1 c2
        rw [mulF_fit h1 fp (by rw [e1]; exact c1), mulF_fit h2 fq (by rw [e2]; exact c2), e1, e2]
        exact Ev.congr (fun k => by rw [if_pos (by rfl), if_pos (by rfl)]) ih
      · rw [mulF_fit h1 fp (by rw [e1]; exact c1), mulF_not (by rw [e2]; exact c2), enc_over (Or.inr (fun z => c2 (pow_fit_le (by omega) (by omega) z)))]
        exact Ev.congr (f := fun _ => some (0, 0, 0, 10)) (fun k => by rw [if_pos (by rfl), if_neg (by decide)]) (Ev.now _)
    · rw [mulF_not (by rw [e1]; exact c1), enc_over (Or.inl (fun z => c1 (pow_fit_le (by omega) (show i + 1 ≤ n by omega) ((hs.pow n).fit.1 z))))]
      exact Ev.congr (f := fun _ => some (0, 0, 0, 10)) (fun k => by rw [if_neg (by decide)]) (Ev.now _)
theorem right_exps {n d t u e s q : Int} (h : RightP n d t) (nf : NF u e s q) (hv : ev u e (s + t) (q + t) = val n d t) : 0 ≤ s ∧ 0 ≤ q ∧ (s = 0 ∨ q = 0) := by
  obtain ⟨u', s', t', nf', e', _, h1, h2, h3, _⟩ := h.form
  obtain ⟨_, _, a, b⟩ := nf_unique (nf_shift nf (s + t) (q + t)) nf' (hv.trans e'.symm)
  omega
theorem RPow_ev {n d t m : Int} (i1 : I64 n) (i2 : I64 d) : ∃ r, Ev (fun k => drachmref02_Pow.f k n d t m) r ∧ PowS n d t m r := by
  have p1 := refRight_ev (t := t) i1 i2
  have arg : ∀ b : Bool, b = true → Ev (fun k => drachmref02_Pow.j0 k m b n d t) (0, 0, 0, 1) := fun b hb => by
    refine Ev.step (f := fun _ => some (0, 0, 0, 1)) (fun k => ?_) (Ev.now _)
    simp only [drachmref02_Pow.j0]; rw [if_pos hb]
  cases r1 : RD n d t with
  | false =>
    rw [r1] at p1
    exact ⟨_, Ev.congr (fun k => rfl) (p1.bind (Ev.congr (fun k => by rw [if_neg (by decide)]) (arg true rfl))), Or.inl ⟨by simp [r1], rfl⟩⟩
  | true =>
    rw [r1] at p1
    by_cases m1 : m < -99
    · exact ⟨_, Ev.congr (fun k => rfl) (p1.bind (Ev.congr (fun k => by rw [if_pos rfl, if_pos m1]) (arg true rfl))), Or.inl ⟨by omega, rfl⟩⟩
    · by_cases m2 : m > 99
      · exact ⟨_, Ev.congr (fun k => rfl) (p1.bind (Ev.congr (fun k => by rw [if_pos rfl, if_neg m1]) (arg _ (decide_eq_true m2)))), Or.inl ⟨by omega, rfl⟩⟩
      · have rg : -99 ≤ m ∧ m ≤ 99 := by omega
        have go : ∀ b r, (b = true ↔ (n = 0 ∧ m < 0)) → Ev (fun k => drachmref02_Pow.j1 k m b n d t) r → Ev (fun k => drachmref02_Pow.f k n d t m) r := fun b r hb hr => by
          refine Ev.congr (fun k => rfl) (p1.bind (Ev.congr (fun k => by rw [if_pos rfl, if_neg m1, decide_eq_false m2]) (Ev.step (fun k => ?_) hr)))
          show drachmref02_Pow.j0 (k + 1) m false n d t = _
          simp only [drachmref02_Pow.j0]
          rw [if_neg (by decide)]
          by_cases c : n = 0
          · rw [if_pos c]
            congr 1
            by_cases c' : m < 0
            · rw [hb.2 ⟨c, c'⟩, decide_eq_true c']
            · have : b = false := by cases b with | true => exact absurd (hb.1 rfl).2 c' | false => rfl
              rw [this, decide_eq_false c']
          · rw [if_neg c]
            have : b = false := by cases b with | true => exact absurd (hb.1 rfl).1 c | false => rfl
            rw [this]
        by_cases z1 : n = 0 ∧ m < 0
        · refine ⟨(0, 0, 0, 11), go true _ (by simp [z1]) (Ev.step (f := fun _ => some (0, 0, 0, 11)) (fun k => ?_) (Ev.now _)), Or.inr (Or.inl ⟨r1, rg, z1.2, z1.1, rfl⟩)⟩
          simp only [drachmref02_Pow.j1]; rw [if_pos trivial]
        · have nb : (false = true ↔ (n = 0 ∧ m < 0)) := by simp [z1]
          by_cases z2 : m = 0
          · refine ⟨(1, 1, 0, 0), go false _ nb (Ev.step (f := fun _ => some (1, 1, 0, 0)) (fun k => ?_) (Ev.now _)), Or.inr (Or.inr (Or.inl ⟨r1, rg, z2, rfl⟩))⟩
            simp only [drachmref02_Pow.j1]; rw [if_neg (by decide), if_pos z2]
          · by_cases z : n = 0
            · obtain ⟨rfl, rfl⟩ := zero_right r1 z
              refine ⟨(0, 1, 0, 0), go false _ nb (Ev.step (f := fun _ => some (0, 1, 0, 0)) (fun k => ?_) (Ev.now _)), Or.inr (Or.inr (Or.inr (Or.inl ⟨r1, rg, by omega, z, rfl⟩)))⟩
              simp only [drachmref02_Pow.j1]; rw [if_neg (by decide), if_neg z2, if_pos z, z]
            · have R1 := (RD_right z i2).1 r1
              obtain ⟨sg, p, e, s, q, hl, hs, hp, nf, hv, fp, fe, s1, s2, q1, q2, hq⟩ := of_right R1
              have l1 := R1.lo
              have l2 := R1.hi
              obtain ⟨x1, x2, x3⟩ := right_exps R1 nf hv
              have start : ∀ {p q s t ten : Int} (hp : 0 < p) (hq : 0 < q) (fp : Fit p) (fq : Fit q) (bs : -63 ≤ s ∧ s ≤ 63) (bt : -63 ≤ t ∧ t ≤ 63) (hst : (0 ≤ s ∧ 0 ≤ t ∧ (s = 0 ∨ t = 0)) ∨ (s ≤ 0 ∧ t ≤ 0 ∧ (s = 0 ∨ t = 0))) (M : Nat) (hM : M ≤ 99),
                  Ev (fun k => drachmref02_Pow.j2 k M ten sg p q s t) (enc ((sg * p) ^ M) (q ^ M) (s * M + ten) (t * M + ten)) := by
                intro p q s t ten hp hq fp fq bs bt hst M hM
                have b1 := mul_small (s := s) M hM (by omega)
                have b2 := mul_small (s := t) M hM (by omega)
                rw [Int.mul_pow]
                have := refpow_loop (s := s) (t := t) (S := s * M) (T := t * M) (ten := ten) (M := M) hs hp hq fp fq (by omega) (by omega) M hM rfl (by
                  by_cases far : ten < -2000 ∨ ten > 2000
                  · refine Or.inr (pow_far (Int.mul_ne_zero ?_ (Int.pow_ne_zero (by omega))) far ?_)
                    · have := hs.pow M; unfold Sg at this; omega
                    · have zz : ∀ w : Int, w = 0 → w * (M : Int) = 0 := fun w h => by rw [h, Int.zero_mul]
                      rcases hst with ⟨a, b, c⟩ | ⟨a, b, c⟩
                      · exact Or.inl ⟨Int.mul_nonneg a (by omega), Int.mul_nonneg b (by omega), c.imp (zz s) (zz t)⟩
                      · exact Or.inr ⟨Int.mul_nonpos_of_nonpos_of_nonneg a (by omega), Int.mul_nonpos_of_nonpos_of_nonneg b (by omega), c.imp (zz s) (zz t)⟩
                  · exact Or.inl (by omega)) M 0 (by omega) (by simp; decide) (by simp; decide)
                refine Ev.step (fun k => ?_) this
                simp only [drachmref02_Pow.j2, Int.pow_zero]
                rw [w64 (x := s * M) (by omega) (by omega), w64 (x := t * M) (by omega) (by omega)]
                simp
              by_cases neg : m < 0
              · obtain ⟨M, hM⟩ := Int.eq_ofNat_of_zero_le (show 0 ≤ -m by omega)
                obtain ⟨nft, het⟩ := refturned hs hp nf
                have bm := mul_small (s := t) M (by omega) ⟨l1, l2⟩
                have tm : t * m = -t * M := by rw [show m = -(M : Int) by omega, Int.mul_neg, Int.neg_mul]
                have tm' : -t * (M : Int) = -(t * M) := Int.neg_mul _ _
                have st := start hq hp fe fp (s := -s) (t := -q) (ten := t * m) (by omega) (by omega) (by omega) M (by omega)
                have hv' : ev (sg * e) p (-s + -t) (-q + -t) = (val n d t)⁻¹ := by rw [← hv, ev_ten, ev_ten, het, inv_ten]
                have en := pow_enc nft M _ hv'
                rw [← tm] at en
                refine ⟨_, go false _ nb (Ev.step (f := fun k => (drachmref02_of.f k n d).bind fun c => if m < 0 then (drachmref02_turned.f c.1 c.2.1 c.2.2.1 c.2.2.2.1 c.2.2.2.2).bind fun c' => drachmref02_Pow.j2 k M (t * m) c'.1 c'.2.1 c'.2.2.1 c'.2.2.2.1 c'.2.2.2.2 else drachmref02_Pow.j2 k m (t * m) c.1 c.2.1 c.2.2.1 c.2.2.2.1 c.2.2.2.2) (fun k => ?_) (hl.bind (Ev.congr (fun k => by have h_ := refturned_f (sg := sg) (p := p) (q := e) (s := s) (t := q) (by omega) (by omega); rw [if_pos neg]; simp only [h_, bs_]) st))), Or.inr (Or.inr (Or.inr (Or.inr ⟨r1, rg, z2, z, ?_⟩)))⟩
                · simp only [drachmref02_Pow.j1]
                  rw [if_neg (by decide), if_neg z2, if_neg z, w64 (x := -m) (by omega) (by omega), w64 (x := t * m) (by omega) (by omega), hM]
                · unfold pv; rw [if_neg (by omega), hM, Int.toNat_natCast]; exact en
              · obtain ⟨M, hM⟩ := Int.eq_ofNat_of_zero_le (show 0 ≤ m by omega)
                subst hM
                have bm := mul_small (s := t) M (by omega) ⟨l1, l2⟩
                have st := start hp hq fp fe (s := s) (t := q) (ten := t * M) (by omega) (by omega) (by omega) M (by omega)
                have en := pow_enc nf M _ hv
                refine ⟨_, go false _ nb (Ev.step (f := fun k => (drachmref02_of.f k n d).bind fun c => if (M : Int) < 0 then (drachmref02_turned.f c.1 c.2.1 c.2.2.1 c.2.2.2.1 c.2.2.2.2).bind fun c' => drachmref02_Pow.j2 k (-(M : Int)) (t * M) c'.1 c'.2.1 c'.2.2.1 c'.2.2.2.1 c'.2.2.2.2 else drachmref02_Pow.j2 k M (t * M) c.1 c.2.1 c.2.2.1 c.2.2.2.1 c.2.2.2.2) (fun k => ?_) (hl.bind (Ev.congr (fun k => by rw [if_neg neg]) st))), Or.inr (Or.inr (Or.inr (Or.inr ⟨r1, rg, z2, z, ?_⟩)))⟩
                · simp only [drachmref02_Pow.j1]
                  rw [if_neg (by decide), if_neg z2, if_neg z, w64 (x := -(M : Int)) (by omega) (by omega), w64 (x := t * M) (by omega) (by omega)]
                · unfold pv; rw [if_pos (by omega), Int.toNat_natCast]; exact en
end Go.Proofs.YtnndaackjgnhhaaDoor.Fr
