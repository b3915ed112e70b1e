/- Products, inverses, and which fracs are right: what the program's and the reference's functions come to. Conditions: 64-bit numbers in form. -/
import Derived.Test.YthfibffgmoblaaaDoorFr3
import Derived.Test.YthfibffgmoblaaaDoorPDx
namespace Go.Proofs.YthfibffgmoblaaaDoor.Fr
open Go.RowKit Go.Proofs.YthfibffgmoblaaaDoor.Wh Go.Proofs.YthfibffgmoblaaaDoor.PB Go.Proofs.YthfibffgmoblaaaDoor.PC Go.Proofs.YthfibffgmoblaaaDoorW.PrintWords Go.Proofs.YthfibffgmoblaaaDoorW.PrintLast Go.Proofs.YthfibffgmoblaaaDoorW.PrintMore
set_option linter.unusedVariables false
theorem prod_parts {u d s t u' d' s' t' : Int} (x : NF u d s t) (y : NF u' d' s' t') (fu : Fit u) (fd : Fit d) (fu' : Fit u') (fd' : Fit d') : ∃ g h u1 d1 u1' d1', gcdF u d' = g ∧ gcdF u' d = h ∧ 0 < g ∧ 0 < h ∧ g ≤ 9223372036854775807 ∧ h ≤ 9223372036854775807 ∧ Int.tdiv u g = u1 ∧ Int.tdiv u' h = u1' ∧ Int.tdiv d h = d1 ∧ Int.tdiv d' g = d1' ∧ Fit u1 ∧ Fit u1' ∧ Fit d1 ∧ Fit d1' ∧
    NF (u1 * u1') (d1 * d1') (s + s') (t + t') ∧ ev (u1 * u1') (d1 * d1') (s + s') (t + t') = ev u d s t * ev u' d' s' t' ∧ (0 < u → 0 < u1) ∧ (0 < u' → 0 < u1') ∧ 0 < d1 ∧ 0 < d1' := by
  obtain ⟨u1, d1', hgc, hg, hx, hy, hco, hgl⟩ := gcd_parts x.hu.ne fu fd'
  obtain ⟨u1', d1, hhc, hh, hx2, hy2, hco2, hhl⟩ := gcd_parts y.hu.ne fu' fd
  generalize gcdF u d' = g at *
  generalize gcdF u' d = h at *
  have m := nf_mul x y u1 d1 u1' d1' hg hh hx hy hx2 hy2 hco hco2
  refine ⟨g, h, u1, d1, u1', d1', rfl, rfl, hg, hh, hgl, hhl, ?_, ?_, ?_, ?_, ?_, ?_, ?_, ?_, m.1, m.2, ?_, ?_, ?_, ?_⟩
  · rw [hx, tdiv_mul (by omega)]
  · rw [hx2, tdiv_mul (by omega)]
  · rw [hy2, tdiv_mul (by omega)]
  · rw [hy, tdiv_mul (by omega)]
  · exact fit_of_mul (g := g) (by omega) (hx ▸ fu)
  · exact fit_of_mul (g := h) (by omega) (hx2 ▸ fu')
  · exact fit_of_mul (g := h) (by omega) (hy2 ▸ fd)
  · exact fit_of_mul (g := g) (by omega) (hy ▸ fd')
  · intro p; rw [hx, Int.mul_comm] at p; exact Int.pos_of_mul_pos_left p hg
  · intro p; rw [hx2, Int.mul_comm] at p; exact Int.pos_of_mul_pos_left p hh
  · have p := x.pos; rw [hy2, Int.mul_comm] at p; exact Int.pos_of_mul_pos_left p hh
  · have p := y.pos; rw [hy, Int.mul_comm] at p; exact Int.pos_of_mul_pos_left p hg
theorem times_ev {u d s t u' d' s' t' : Int} (x : NF u d s t) (y : NF u' d' s' t') (fu : Fit u) (fd : Fit d) (fu' : Fit u') (fd' : Fit d')
    (bs : -1000000 ≤ s ∧ s ≤ 1000000 ∧ -1000000 ≤ s' ∧ s' ≤ 1000000) (bt : -1000000 ≤ t ∧ t ≤ 1000000 ∧ -1000000 ≤ t' ∧ t' ≤ 1000000) :
    ∃ r U D, Ev (fun k => frac_loose_times.f k u d s t u' d' s' t') r ∧ NF U D (s + s') (t + t') ∧ ev U D (s + s') (t + t') = ev u d s t * ev u' d' s' t' ∧ (Fit U ∧ Fit D → r = (U, D, s + s', t + t', true)) ∧ (¬ (Fit U ∧ Fit D) → r.2.2.2.2 = false) := by
  obtain ⟨g, h, u1, d1, u1', d1', eg, eh, hg, hh, hgl, hhl, q1, q2, q3, q4, f1, f2, f3, f4, nf, e, _⟩ := prod_parts x y fu fd fu' fd'
  have p1 := Gcd_ev u d' fu.i64 fd'.i64
  have p2 := Gcd_ev u' d fu'.i64 fd.i64
  rw [eg] at p1
  rw [eh] at p2
  have m1 := Mul_ev u1 u1' f1.i64 f2.i64
  have m2 := Mul_ev d1 d1' f3.i64 f4.i64
  have w1 : wrap64 (s + s') = s + s' := w64 (by omega) (by omega)
  have w2 : wrap64 (t + t') = t + t' := w64 (by omega) (by omega)
  have wu := w64 (x := u1) (by unfold Fit at f1; omega) (by unfold Fit at f1; omega)
  have wu' := w64 (x := u1') (by unfold Fit at f2; omega) (by unfold Fit at f2; omega)
  have wd := w64 (x := d1) (by unfold Fit at f3; omega) (by unfold Fit at f3; omega)
  have wd' := w64 (x := d1') (by unfold Fit at f4; omega) (by unfold Fit at f4; omega)
  refine ⟨if (mulF u1 u1').2 = true then ((mulF u1 u1').1, (mulF d1 d1').1, s + s', t + t', (mulF d1 d1').2) else ((mulF u1 u1').1, (mulF d1 d1').1, s + s', t + t', false), u1 * u1', d1 * d1', ?_, nf, e, ?_, ?_⟩
  · refine Ev.congr (fun k => rfl) (p1.bind (p2.bind (Ev.congr (f := fun k => (whole_Mul.f k u1 u1').bind fun bt1 => (whole_Mul.f k d1 d1').bind fun bt2 => if bt1.2 = true then some (bt1.1, bt2.1, s + s', t + t', bt2.2) else some (bt1.1, bt2.1, s + s', t + t', false)) (fun k => ?_) (m1.bind (m2.bind (Ev.congr (f := fun _ => some _) (fun k => ?_) (Ev.now _)))))))
    · show (if g = 0 then none else _) = _
      rw [if_neg (by omega), if_neg (by omega), q1, q2, q3, q4, wu, wu', wd, wd', w1, w2]
    · show (if (mulF u1 u1').2 = true then _ else _) = some (if (mulF u1 u1').2 = true then _ else _)
      split <;> rfl
  · rintro ⟨c1, c2⟩
    rw [mulF_fit f1 f2 c1, mulF_fit f3 f4 c2]; rfl
  · intro c
    by_cases c1 : Fit (u1 * u1')
    · have c2 : ¬ Fit (d1 * d1') := fun z => c ⟨c1, z⟩
      rw [mulF_fit f1 f2 c1, mulF_not c2]; rfl
    · rw [mulF_not c1]; rfl

theorem turned_ev {u d s t : Int} (x : NF u d s t) (fu : Fit u) (fd : Fit d) (bs : -1000000 ≤ s ∧ s ≤ 1000000) (bt : -1000000 ≤ t ∧ t ≤ 1000000) :
    ∃ U D, Ev (fun k => frac_loose_turned.f k u d s t) (U, D, -s, -t) ∧ NF U D (-s) (-t) ∧ ev U D (-s) (-t) = (ev u d s t)⁻¹ ∧ Fit U ∧ Fit D := by
  have w1 : wrap64 (-s) = -s := w64 (by omega) (by omega)
  have w2 : wrap64 (-t) = -t := w64 (by omega) (by omega)
  have fu' := fu
  have fd' := fd
  unfold Fit at fu' fd'
  have j : ∀ a b : Int, Ev (fun k => frac_loose_turned.j0 k u d s t a b 0 0) (a, b, -s, -t) := fun a b => by
    refine Ev.step (f := fun _ => some (a, b, -s, -t)) (fun k => ?_) (Ev.now _)
    simp only [frac_loose_turned.j0]
    rw [w1, w2]
  by_cases h : u < 0
  · have n := nf_inv x (-d) (-u) (Or.inr ⟨rfl, rfl, h⟩)
    refine ⟨-d, -u, Ev.congr (fun k => ?_) (j (-d) (-u)), n.1, n.2, ?_, ?_⟩
    · unfold frac_loose_turned.f
      rw [if_pos h, w64 (x := -d) (by omega) (by omega), w64 (x := -u) (by omega) (by omega)]
    · unfold Fit; omega
    · unfold Fit; omega
  · have hu := x.hu.ne
    have n := nf_inv x d u (Or.inl ⟨rfl, rfl, by omega⟩)
    refine ⟨d, u, Ev.congr (fun k => ?_) (j d u), n.1, n.2, fd, fu⟩
    unfold frac_loose_turned.f
    rw [if_neg h]

/-! Which fracs are right. -/
def RD (n d t : Int) : Bool := if n = 0 then (d == 1 && t == 0) else decide (Fit n ∧ 1 ≤ d ∧ ¬ Int.tmod d 2 = 0 ∧ ¬ Int.tmod d 5 = 0 ∧ ¬ Int.tmod n 10 = 0 ∧ gcdF n d = 1 ∧ -1000 ≤ t ∧ t ≤ 1000)
theorem RD_right {n d t : Int} (hn : n ≠ 0) (id : I64 d) : RD n d t = true ↔ RightP n d t := by
  unfold RD
  rw [if_neg hn, decide_eq_true_iff]
  constructor
  · rintro ⟨h1, h2, h3, h4, h5, h6, h7, h8⟩
    refine ⟨hn, h1, by unfold I64 at id; unfold Fit; omega, by omega, fun h => h3 (Int.tmod_eq_zero_of_dvd h), fun h => h4 (Int.tmod_eq_zero_of_dvd h), fun h => h5 (Int.tmod_eq_zero_of_dvd h), ?_, h7, h8⟩
    unfold gcdF at h6
    rw [if_pos ⟨h1.1, by omega⟩] at h6
    have : Int.gcd n d = 1 := by omega
    exact this
  · intro h
    refine ⟨h.fn, by have := h.pos; omega, fun c => h.d2 (Int.dvd_of_tmod_eq_zero c), fun c => h.d5 (Int.dvd_of_tmod_eq_zero c), fun c => h.n10 (Int.dvd_of_tmod_eq_zero c), ?_, h.lo, h.hi⟩
    unfold gcdF
    rw [if_pos ⟨h.fn.1, h.fd.1⟩]
    have : Int.gcd n d = 1 := h.co
    omega
theorem right_tail {g : Nat → Option Int} {n d t : Int} (hg : Ev g (gcdF n d)) (i : I64 n) (hn : n ≠ 0) : Ev (fun k => if -9223372036854775807 ≤ n then (if d ≥ 1 then (if (Int.tmod d 2) = 0 then (some false) else (if (Int.tmod d 5) = 0 then (some false) else (if (Int.tmod n 10) = 0 then (some false) else ((g k).bind fun t121 => (if t121 = 1 then (if t ≥ (-1000) then (some (decide (t ≤ 1000))) else (some false)) else (some false)))))) else (some false)) else some false) (RD n d t) := by
  obtain ⟨C, hC⟩ : ∃ C, RD n d t = C := ⟨_, rfl⟩
  rw [hC]
  have no : ¬ (Fit n ∧ 1 ≤ d ∧ ¬ Int.tmod d 2 = 0 ∧ ¬ Int.tmod d 5 = 0 ∧ ¬ Int.tmod n 10 = 0 ∧ gcdF n d = 1 ∧ -1000 ≤ t ∧ t ≤ 1000) → C = false := fun h => by
    rw [← hC]; unfold RD; rw [if_neg hn, decide_eq_false h]
  by_cases c1 : -9223372036854775807 ≤ n
  · by_cases c2 : d ≥ 1
    · by_cases c3 : Int.tmod d 2 = 0
      · rw [no (fun h => h.2.2.1 c3)]
        exact Ev.congr (fun k => by rw [if_pos c1, if_pos c2, if_pos c3]) (Ev.now _)
      · by_cases c4 : Int.tmod d 5 = 0
        · rw [no (fun h => h.2.2.2.1 c4)]
          exact Ev.congr (fun k => by rw [if_pos c1, if_pos c2, if_neg c3, if_pos c4]) (Ev.now _)
        · by_cases c5 : Int.tmod n 10 = 0
          · rw [no (fun h => h.2.2.2.2.1 c5)]
            exact Ev.congr (fun k => by rw [if_pos c1, if_pos c2, if_neg c3, if_neg c4, if_pos c5]) (Ev.now _)
          · refine Ev.congr (fun k => by rw [if_pos c1, if_pos c2, if_neg c3, if_neg c4, if_neg c5]) (hg.bind (Ev.congr (f := fun _ => some C) (fun k => ?_) (Ev.now _)))
            by_cases c6 : gcdF n d = 1
            · rw [if_pos c6]
              by_cases c7 : t ≥ -1000
              · rw [if_pos c7, ← hC]
                have fn : Fit n := by unfold I64 at i; unfold Fit; omega
                unfold RD
                rw [if_neg hn]
                congr 1
                exact decide_eq_decide.2 ⟨fun h => ⟨fn, by omega, c3, c4, c5, c6, by omega, h⟩, fun h => h.2.2.2.2.2.2.2⟩
              · rw [if_neg c7, no (fun h => c7 h.2.2.2.2.2.2.1)]
            · rw [if_neg c6, no (fun h => c6 h.2.2.2.2.2.1)]
    · rw [no (fun h => c2 h.2.1)]
      exact Ev.congr (fun k => by rw [if_pos c1, if_neg c2]) (Ev.now _)
  · rw [no (fun h => c1 h.1.1)]
    exact Ev.congr (fun k => by rw [if_neg c1]) (Ev.now _)
theorem Right_ev {n d t : Int} (i : I64 n) (id : I64 d) : Ev (fun k => frac_Right.f k n d t) (RD n d t) := by
  by_cases h0 : n = 0
  · refine Ev.congr (f := fun _ => some _) (fun k => ?_) (Ev.now _)
    unfold frac_Right.f RD
    rw [if_pos h0, if_pos h0]
    simp [h0]
  · refine Ev.congr (fun k => ?_) (right_tail (Gcd_ev n d i id) i h0)
    unfold frac_Right.f
    rw [if_neg h0, Fits_eq, bs_]
    unfold fits
    by_cases c1 : -9223372036854775807 ≤ n
    · rw [decide_eq_true c1, if_pos rfl, if_pos c1]
    · rw [decide_eq_false c1, if_neg (by decide), if_neg c1]
end Go.Proofs.YthfibffgmoblaaaDoor.Fr
namespace Go.Proofs.YthfibffgmoblaaaDoor.Fr
open Go.RowKit Go.Proofs.YthfibffgmoblaaaDoor.Wh Go.Proofs.YthfibffgmoblaaaDoor.PB Go.Proofs.YthfibffgmoblaaaDoor.PC Go.Proofs.YthfibffgmoblaaaDoor.PD Go.Proofs.YthfibffgmoblaaaDoorW.PrintWords Go.Proofs.YthfibffgmoblaaaDoorW.PrintLast Go.Proofs.YthfibffgmoblaaaDoorW.PrintMore
set_option linter.unusedVariables false
abbrev R4 := Int × Int × Int × Int
def MakeS (num den ten : Int) (r : R4) : Prop :=
  (¬ (Fit num ∧ Fit den) ∧ r = (0, 0, 0, 1)) ∨ (Fit num ∧ Fit den ∧ den = 0 ∧ r = (0, 0, 0, 11)) ∨ (Fit num ∧ Fit den ∧ den ≠ 0 ∧ num = 0 ∧ r = (0, 1, 0, 0)) ∨ (Fit num ∧ Fit den ∧ den ≠ 0 ∧ num ≠ 0 ∧ Enc ((num : Rat) / den * (10 : Rat) ^ ten) r)
theorem MakeS.unique {num den ten : Int} {r r' : R4} (h : MakeS num den ten r) (h' : MakeS num den ten r') : r = r' := by
  rcases h with ⟨a, rfl⟩ | ⟨a1, a2, a3, rfl⟩ | ⟨a1, a2, a3, a4, rfl⟩ | ⟨a1, a2, a3, a4, a5⟩ <;> rcases h' with ⟨b, rfl⟩ | ⟨b1, b2, b3, rfl⟩ | ⟨b1, b2, b3, b4, rfl⟩ | ⟨b1, b2, b3, b4, b5⟩
  all_goals first | rfl | (exact Enc.unique a5 b5) | (exfalso; first | exact a ⟨b1, b2⟩ | exact b ⟨a1, a2⟩ | exact a3 b3 | exact b3 a3 | exact a4 b4 | exact b4 a4)
theorem enc_far {u d s t ten : Int} (bs : -63 ≤ s ∧ s ≤ 63) (bt : -63 ≤ t ∧ t ≤ 63) (h : ten < -2000 ∨ ten > 2000) : enc u d (s + ten) (t + ten) = (0, 0, 0, 10) := by
  unfold enc
  rw [if_neg]
  rintro ⟨_, _, h1, h2⟩
  rw [lw_ten] at h1 h2
  unfold lw at h1 h2
  split at h1 <;> split at h2 <;> omega
theorem bind4 (f : Nat → Option R4) (r : R4) (h : Ev f r) : Ev (fun k => (f k).bind fun b => some (b.1, b.2.1, b.2.2.1, b.2.2.2)) r := h.bind (Ev.now _)
theorem FMake_ev {num den ten : Int} (i1 : I64 num) (i2 : I64 den) : ∃ r, Ev (fun k => frac_Make.f k num den ten) r ∧ MakeS num den ten r := by
  have ff : ∀ x, I64 x → (fits x = true ↔ Fit x) := fun x h => by unfold fits Fit; unfold I64 at h; rw [decide_eq_true_iff]; omega
  have arg : ∀ b : Bool, b = true → Ev (fun k => frac_Make.j0 k num den ten b) (0, 0, 0, 1) := fun b hb => by
    refine Ev.step (f := fun _ => some (0, 0, 0, 1)) (fun k => ?_) (Ev.now _)
    simp only [frac_Make.j0]; rw [if_pos hb]
  by_cases h : Fit num ∧ Fit den
  · have go : ∀ r, Ev (fun k => frac_Make.j0 k num den ten false) r → Ev (fun k => frac_Make.f k num den ten) r := fun r hr => by
      refine Ev.congr (fun k => ?_) hr
      unfold frac_Make.f
      rw [Fits_eq, bs_, Fits_eq, bs_, (ff num i1).2 h.1, (ff den i2).2 h.2, if_pos rfl]; rfl
    by_cases d0 : den = 0
    · refine ⟨(0, 0, 0, 11), go _ (Ev.step (f := fun _ => some (0, 0, 0, 11)) (fun k => ?_) (Ev.now _)), Or.inr (Or.inl ⟨h.1, h.2, d0, rfl⟩)⟩
      simp only [frac_Make.j0]; rw [if_neg (by decide), if_pos d0]
    · by_cases n0 : num = 0
      · refine ⟨(0, 1, 0, 0), go _ (Ev.step (f := fun _ => some (0, 1, 0, 0)) (fun k => ?_) (Ev.now _)), Or.inr (Or.inr (Or.inl ⟨h.1, h.2, d0, n0, rfl⟩))⟩
        simp only [frac_Make.j0]; rw [if_neg (by decide), if_neg d0, if_pos n0]
      · obtain ⟨u, d, s, t, hl, nf, e, fu, fd, s1, s2, t1, t2⟩ := loosen_ev n0 h.1 d0 h.2
        have en : Enc ((num : Rat) / den * (10 : Rat) ^ ten) (enc u d (s + ten) (t + ten)) := ⟨u, d, _, _, nf_shift nf _ _, by rw [ev_ten, e], rfl⟩
        by_cases far : ten < -2000 ∨ ten > 2000
        · rw [enc_far ⟨s1, s2⟩ ⟨t1, t2⟩ far] at en
          refine ⟨_, go _ (Ev.step (f := fun k => frac_Make.j1 k num den ten true) (fun k => ?_) (Ev.step (f := fun _ => some (0, 0, 0, 10)) (fun k => ?_) (Ev.now _))), Or.inr (Or.inr (Or.inr ⟨h.1, h.2, d0, n0, en⟩))⟩
          · simp only [frac_Make.j0]; rw [if_neg (by decide), if_neg d0, if_neg n0]
            by_cases g : ten < -2000
            · rw [if_pos g]
            · rw [if_neg g, decide_eq_true (by omega)]
          · simp only [frac_Make.j1]; rw [if_pos trivial]
        · have f := form_ev (ten := ten) nf.hu.ne fu fd (s := s) (t := t) (by omega) (by omega) (by omega)
          refine ⟨_, go _ (Ev.step (f := fun k => frac_Make.j1 k num den ten false) (fun k => ?_) (Ev.step (f := fun k => (frac_loosen.f k num den).bind fun c => (frac_loose_form.f k c.1 c.2.1 c.2.2.1 c.2.2.2 ten).bind fun b => some (b.1, b.2.1, b.2.2.1, b.2.2.2)) (fun k => ?_) (hl.bind (bind4 _ _ f)))), Or.inr (Or.inr (Or.inr ⟨h.1, h.2, d0, n0, en⟩))⟩
          · simp only [frac_Make.j0]; rw [if_neg (by decide), if_neg d0, if_neg n0, if_neg (by omega), decide_eq_false (by omega)]
          · simp only [frac_Make.j1]; rw [if_neg (by decide)]
  · refine ⟨(0, 0, 0, 1), ?_, Or.inl ⟨h, rfl⟩⟩
    by_cases h1 : Fit num
    · refine Ev.congr (fun k => ?_) (arg (!fits den) (by have := (ff den i2); cases e : fits den with | true => exact absurd ⟨h1, this.1 e⟩ h | false => rfl))
      unfold frac_Make.f
      rw [Fits_eq, bs_, Fits_eq, bs_, (ff num i1).2 h1, if_pos rfl]
    · refine Ev.congr (fun k => ?_) (arg true rfl)
      unfold frac_Make.f
      rw [Fits_eq, bs_, if_neg (fun c => h1 ((ff num i1).1 c))]
/-- a frac that is right: its loose form -/
theorem loose_of {n d t : Int} (h : RightP n d t) : ∃ u d' s t', Ev (fun k => frac_loosen.f k n d) (u, d', s, t') ∧ NF u d' s t' ∧ ev u d' (s + t) (t' + t) = val n d t ∧ Fit u ∧ Fit d' ∧ -63 ≤ s ∧ s ≤ 63 ∧ -63 ≤ t' ∧ t' ≤ 63 := by
  obtain ⟨u, d', s, t', hl, nf, e, r⟩ := loosen_ev h.nz h.fn (show d ≠ 0 by have := h.pos; omega) h.fd
  exact ⟨u, d', s, t', hl, nf, by rw [ev_ten, e]; rfl, r⟩
theorem product_ev {u d s t u' d' s' t' ten : Int} (x : NF u d s t) (y : NF u' d' s' t') (fu : Fit u) (fd : Fit d) (fu' : Fit u') (fd' : Fit d')
    (bs : -1000 ≤ s ∧ s ≤ 1000 ∧ -1000 ≤ s' ∧ s' ≤ 1000) (bt : -1000 ≤ t ∧ t ≤ 1000 ∧ -1000 ≤ t' ∧ t' ≤ 1000) (bn : -10000 ≤ ten ∧ ten ≤ 10000) :
    ∃ r, Ev (fun k => frac_product.f k u d s t u' d' s' t' ten) r ∧ Enc (ev u d s t * ev u' d' s' t' * (10 : Rat) ^ ten) r := by
  obtain ⟨r, U, D, ht, nf, e, y1, y2⟩ := times_ev x y fu fd fu' fd' (by omega) (by omega)
  have en : Enc (ev u d s t * ev u' d' s' t' * (10 : Rat) ^ ten) (enc U D (s + s' + ten) (t + t' + ten)) := ⟨U, D, _, _, nf_shift nf _ _, by rw [ev_ten, e], rfl⟩
  refine ⟨_, ?_, en⟩
  by_cases c : Fit U ∧ Fit D
  · rw [y1 c] at ht
    have f := form_ev (ten := ten) nf.hu.ne c.1 c.2 (s := s + s') (t := t + t') (by omega) (by omega) (by omega)
    exact Ev.congr (fun k => rfl) (ht.bind (Ev.congr (fun k => by rw [if_pos (by rfl)]) (bind4 _ _ f)))
  · have z := y2 c
    rw [enc_over (by by_cases q : Fit U; exact Or.inr (fun w => c ⟨q, w⟩); exact Or.inl q)]
    exact Ev.congr (fun k => rfl) (ht.bind (Ev.congr (f := fun _ => some (0, 0, 0, 10)) (fun k => by rw [if_neg (by rw [z]; decide)]) (Ev.now _)))
def MulS (n d t n' d' t' : Int) (r : R4) : Prop :=
  (¬ (RD n d t = true ∧ RD n' d' t' = true) ∧ r = (0, 0, 0, 1)) ∨ (RD n d t = true ∧ RD n' d' t' = true ∧ (n = 0 ∨ n' = 0) ∧ r = (0, 1, 0, 0)) ∨ (RD n d t = true ∧ RD n' d' t' = true ∧ ¬ (n = 0 ∨ n' = 0) ∧ Enc (val n d t * val n' d' t') r)
theorem MulS.unique {n d t n' d' t' : Int} {r r' : R4} (h : MulS n d t n' d' t' r) (h' : MulS n d t n' d' t' r') : r = r' := by
  rcases h with ⟨a, rfl⟩ | ⟨a1, a2, a3, rfl⟩ | ⟨a1, a2, a3, a5⟩ <;> rcases h' with ⟨b, rfl⟩ | ⟨b1, b2, b3, rfl⟩ | ⟨b1, b2, b3, b5⟩
  all_goals first | rfl | (exact Enc.unique a5 b5) | (exfalso; first | exact a ⟨b1, b2⟩ | exact b ⟨a1, a2⟩ | exact a3 b3 | exact b3 a3)
theorem val_mul {n d t n' d' t' : Int} {u e s q u' e' s' q' : Int} (h : ev u e (s + t) (q + t) = val n d t) (h' : ev u' e' (s' + t') (q' + t') = val n' d' t') : ev u e s q * ev u' e' s' q' * (10 : Rat) ^ (t + t') = val n d t * val n' d' t' := by
  rw [← h, ← h', ev_ten, ev_ten, Rat.zpow_add (by decide)]
  grind
theorem FMul_ev {n d t n' d' t' : Int} (i1 : I64 n) (i2 : I64 d) (i3 : I64 n') (i4 : I64 d') : ∃ r, Ev (fun k => frac_Mul.f k n d t n' d' t') r ∧ MulS n d t n' d' t' r := by
  have p1 := Right_ev (t := t) i1 i2
  have p2 := Right_ev (t := t') i3 i4
  have arg : ∀ b : Bool, b = true → Ev (fun k => frac_Mul.j0 k b n d t n' d' t') (0, 0, 0, 1) := fun b hb => by
    refine Ev.step (f := fun _ => some (0, 0, 0, 1)) (fun k => ?_) (Ev.now _)
    simp only [frac_Mul.j0]; rw [if_pos hb]
  cases r1 : RD n d t with
  | false =>
    rw [r1] at p1
    exact ⟨_, Ev.congr (fun k => rfl) (p1.bind (Ev.congr (fun k => by rw [if_neg (by decide)]) (arg true rfl))), Or.inl ⟨by simp [r1], rfl⟩⟩
  | true =>
    rw [r1] at p1
    cases r2 : RD n' d' t' with
    | false =>
      rw [r2] at p2
      exact ⟨_, Ev.congr (fun k => rfl) (p1.bind (Ev.congr (fun k => by rw [if_pos rfl]) (p2.bind (arg _ rfl)))), Or.inl ⟨by simp [r2], rfl⟩⟩
    | true =>
      rw [r2] at p2
      have go : ∀ b r, (b = true ↔ (n = 0 ∨ n' = 0)) → Ev (fun k => frac_Mul.j1 k b n d t n' d' t') r → Ev (fun k => frac_Mul.f k n d t n' d' t') r := fun b r hb hr => by
        refine Ev.congr (fun k => rfl) (p1.bind (Ev.congr (fun k => by rw [if_pos rfl]) (p2.bind (Ev.step (fun k => ?_) hr))))
        show frac_Mul.j0 (k + 1) false n d t n' d' t' = _
        simp only [frac_Mul.j0]
        rw [if_neg (by decide)]
        by_cases c : n = 0
        · rw [if_pos c, hb.2 (Or.inl c)]
        · rw [if_neg c]
          congr 1
          by_cases c' : n' = 0
          · rw [hb.2 (Or.inr c')]; simpa using c'
          · have : b = false := by cases b with | true => exact absurd (hb.1 rfl) (fun h => h.elim c c') | false => rfl
            rw [this]; simpa using c'
      by_cases z : n = 0 ∨ n' = 0
      · refine ⟨(0, 1, 0, 0), go true _ (by simp [z]) (Ev.step (f := fun _ => some (0, 1, 0, 0)) (fun k => ?_) (Ev.now _)), Or.inr (Or.inl ⟨r1, r2, z, rfl⟩)⟩
        simp only [frac_Mul.j1]; rw [if_pos trivial]
      · have R1 := (RD_right (fun h => z (Or.inl h)) i2).1 r1
        have R2 := (RD_right (fun h => z (Or.inr h)) i4).1 r2
        obtain ⟨u, e, s, q, hl, nf, hv, fu, fe, s1, s2, q1, q2⟩ := loose_of R1
        obtain ⟨u', e', s', q', hl', nf', hv', fu', fe', s1', s2', q1', q2'⟩ := loose_of R2
        have l1 := R1.lo
        have l2 := R1.hi
        have l3 := R2.lo
        have l4 := R2.hi
        obtain ⟨r, hr, en⟩ := product_ev (ten := t + t') nf nf' fu fe fu' fe' (by omega) (by omega) (by omega)
        rw [val_mul hv hv'] at en
        refine ⟨r, go false _ (by simp [z]) (Ev.step (f := fun k => (frac_loosen.f k n d).bind fun c => (frac_loosen.f k n' d').bind fun c' => (frac_product.f k c.1 c.2.1 c.2.2.1 c.2.2.2 c'.1 c'.2.1 c'.2.2.1 c'.2.2.2 (t + t')).bind fun b => some (b.1, b.2.1, b.2.2.1, b.2.2.2)) (fun k => ?_) (hl.bind (hl'.bind (bind4 _ _ hr)))), Or.inr (Or.inr ⟨r1, r2, z, en⟩)⟩
        simp only [frac_Mul.j1]; rw [if_neg (by decide), w64 (x := t + t') (by omega) (by omega)]
theorem zero_right {n d t : Int} (h : RD n d t = true) (z : n = 0) : d = 1 ∧ t = 0 := by
  unfold RD at h; rw [if_pos z] at h; simpa using h
end Go.Proofs.YthfibffgmoblaaaDoor.Fr
