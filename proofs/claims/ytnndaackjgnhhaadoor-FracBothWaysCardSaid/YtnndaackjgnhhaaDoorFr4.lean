/- Products, inverses, and which fracs are right: what the program's and the reference's functions come to. Conditions: 64-bit numbers in form. -/
import Derived.Test.YtnndaackjgnhhaaDoorFr3
namespace Go.Proofs.YtnndaackjgnhhaaDoor.Fr
open Go.RowKit Go.Proofs.YtnndaackjgnhhaaDoor.Wh Go.Proofs.YtnndaackjgnhhaaDoor.PB Go.Proofs.YtnndaackjgnhhaaDoor.PC Go.Proofs.YtnndaackjgnhhaaDoorW.PrintWords Go.Proofs.YtnndaackjgnhhaaDoorW.PrintLast Go.Proofs.YtnndaackjgnhhaaDoorW.PrintMore
set_option linter.unusedVariables false
theorem prod_parts {u d s t u' d' s' t' : Int} (x : NF u d s t) (y : NF u' d' s' t') (fu : Fit u) (fd : Fit d) (fu' : Fit u') (fd' : Fit d') : ∃ g h u1 d1 u1' d1', gcdF u d' = g ∧ gcdF u' d = h ∧ 0 < g ∧ 0 < h ∧ g ≤ 9223372036854775807 ∧ h ≤ 9223372036854775807 ∧ Int.tdiv u g = u1 ∧ Int.tdiv u' h = u1' ∧ Int.tdiv d h = d1 ∧ Int.tdiv d' g = d1' ∧ Fit u1 ∧ Fit u1' ∧ Fit d1 ∧ Fit d1' ∧
    NF (u1 * u1') (d1 * d1') (s + s') (t + t') ∧ ev (u1 * u1') (d1 * d1') (s + s') (t + t') = ev u d s t * ev u' d' s' t' ∧ (0 < u → 0 < u1) ∧ (0 < u' → 0 < u1') ∧ 0 < d1 ∧ 0 < d1' := by
  obtain ⟨u1, d1', hgc, hg, hx, hy, hco, hgl⟩ := gcd_parts x.hu.ne fu fd'
  obtain ⟨u1', d1, hhc, hh, hx2, hy2, hco2, hhl⟩ := gcd_parts y.hu.ne fu' fd
  generalize gcdF u d' = g at *
  generalize gcdF u' d = h at *
  have m := nf_mul x y u1 d1 u1' d1' hg hh hx hy hx2 hy2 hco hco2
  refine ⟨g, h, u1, d1, u1', d1', rfl, rfl, hg, hh, hgl, hhl, ?_, ?_, ?_, ?_, ?_, ?_, ?_, ?_, m.1, m.2, ?_, ?_, ?_, ?_⟩
  · rw [hx, tdiv_mul (by omega)]
  · rw [hx2, tdiv_mul (by omega)]
  · rw [hy2, tdiv_mul (by omega)]
  · rw [hy, tdiv_mul (by omega)]
  · exact fit_of_mul (g := g) (by omega) (hx ▸ fu)
  · exact fit_of_mul (g := h) (by omega) (hx2 ▸ fu')
  · exact fit_of_mul (g := h) (by omega) (hy2 ▸ fd)
  · exact fit_of_mul (g := g) (by omega) (hy ▸ fd')
  · intro p; rw [hx, Int.mul_comm] at p; exact Int.pos_of_mul_pos_left p hg
  · intro p; rw [hx2, Int.mul_comm] at p; exact Int.pos_of_mul_pos_left p hh
  · have p := x.pos; rw [hy2, Int.mul_comm] at p; exact Int.pos_of_mul_pos_left p hh
  · have p := y.pos; rw [hy, Int.mul_comm] at p; exact Int.pos_of_mul_pos_left p hg
theorem times_ev {u d s t u' d' s' t' : Int} (x : NF u d s t) (y : NF u' d' s' t') (fu : Fit u) (fd : Fit d) (fu' : Fit u') (fd' : Fit d')
    (bs : -1000000 ≤ s ∧ s ≤ 1000000 ∧ -1000000 ≤ s' ∧ s' ≤ 1000000) (bt : -1000000 ≤ t ∧ t ≤ 1000000 ∧ -1000000 ≤ t' ∧ t' ≤ 1000000) :
    ∃ r U D, Ev (fun k => frac_loose_times.f k u d s t u' d' s' t') r ∧ NF U D (s + s') (t + t') ∧ ev U D (s + s') (t + t') = ev u d s t * ev u' d' s' t' ∧ (Fit U ∧ Fit D → r = (U, D, s + s', t + t', true)) ∧ (¬ (Fit U ∧ Fit D) → r.2.2.2.2 = false) := by
  obtain ⟨g, h, u1, d1, u1', d1', eg, eh, hg, hh, hgl, hhl, q1, q2, q3, q4, f1, f2, f3, f4, nf, e, _⟩ := prod_parts x y fu fd fu' fd'
  have p1 := Gcd_ev u d' fu.i64 fd'.i64
  have p2 := Gcd_ev u' d fu'.i64 fd.i64
  rw [eg] at p1
  rw [eh] at p2
  have m1 := Mul_ev u1 u1' f1.i64 f2.i64
  have m2 := Mul_ev d1 d1' f3.i64 f4.i64
  have w1 : wrap64 (s + s') = s + s' := w64 (by omega) (by omega)
  have w2 : wrap64 (t + t') = t + t' := w64 (by omega) (by omega)
  have wu := w64 (x := u1) (by unfold Fit at f1; omega) (by unfold Fit at f1; omega)
  have wu' := w64 (x := u1') (by unfold Fit at f2; omega) (by unfold Fit at f2; omega)
  have wd := w64 (x := d1) (by unfold Fit at f3; omega) (by unfold Fit at f3; omega)
  have wd' := w64 (x := d1') (by unfold Fit at f4; omega) (by unfold Fit at f4; omega)
  refine ⟨if (mulF u1 u1').2 = true then ((mulF u1 u1').1, (mulF d1 d1').1, s + s', t + t', (mulF d1 d1').2) else ((mulF u1 u1').1, (mulF d1 d1').1, s + s', t + t', false), u1 * u1', d1 * d1', ?_, nf, e, ?_, ?_⟩
  · refine Ev.congr (fun k => rfl) (p1.bind (p2.bind (Ev.congr (f := fun k => (whole_Mul.f k u1 u1').bind fun bt1 => (whole_Mul.f k d1 d1').bind fun bt2 => if bt1.2 = true then some (bt1.1, bt2.1, s + s', t + t', bt2.2) else some (bt1.1, bt2.1, s + s', t + t', false)) (fun k => ?_) (m1.bind (m2.bind (Ev.congr (f := fun _ => some _) (fun k => ?_) (Ev.now _)))))))
    · show (if g = 0 then none else _) = _
      rw [if_neg (by omega), if_neg (by omega), q1, q2, q3, q4, wu, wu', wd, wd', w1, w2]
    · show (if (mulF u1 u1').2 = true then _ else _) = some (if (mulF u1 u1').2 = true then _ else _)
      split <;> rfl
  · rintro ⟨c1, c2⟩
    rw [mulF_fit f1 f2 c1, mulF_fit f3 f4 c2]; rfl
  · intro c
    by_cases c1 : Fit (u1 * u1')
    · have c2 : ¬ Fit (d1 * d1') := fun z => c ⟨c1, z⟩
      rw [mulF_fit f1 f2 c1, mulF_not c2]; rfl
    · rw [mulF_not c1]; rfl

theorem turned_ev {u d s t : Int} (x : NF u d s t) (fu : Fit u) (fd : Fit d) (bs : -1000000 ≤ s ∧ s ≤ 1000000) (bt : -1000000 ≤ t ∧ t ≤ 1000000) :
    ∃ U D, Ev (fun k => frac_loose_turned.f k u d s t) (U, D, -s, -t) ∧ NF U D (-s) (-t) ∧ ev U D (-s) (-t) = (ev u d s t)⁻¹ ∧ Fit U ∧ Fit D := by
  have w1 : wrap64 (-s) = -s := w64 (by omega) (by omega)
  have w2 : wrap64 (-t) = -t := w64 (by omega) (by omega)
  have fu' := fu
  have fd' := fd
  unfold Fit at fu' fd'
  have j : ∀ a b : Int, Ev (fun k => frac_loose_turned.j0 k u d s t a b 0 0) (a, b, -s, -t) := fun a b => by
    refine Ev.step (f := fun _ => some (a, b, -s, -t)) (fun k => ?_) (Ev.now _)
    simp only [frac_loose_turned.j0]
    rw [w1, w2]
  by_cases h : u < 0
  · have n := nf_inv x (-d) (-u) (Or.inr ⟨rfl, rfl, h⟩)
    refine ⟨-d, -u, Ev.congr (fun k => ?_) (j (-d) (-u)), n.1, n.2, ?_, ?_⟩
    · unfold frac_loose_turned.f
      rw [if_pos h, w64 (x := -d) (by omega) (by omega), w64 (x := -u) (by omega) (by omega)]
    · unfold Fit; omega
    · unfold Fit; omega
  · have hu := x.hu.ne
    have n := nf_inv x d u (Or.inl ⟨rfl, rfl, by omega⟩)
    refine ⟨d, u, Ev.congr (fun k => ?_) (j d u), n.1, n.2, fd, fu⟩
    unfold frac_loose_turned.f
    rw [if_neg h]

/-! Which fracs are right. -/
def RD (n d t : Int) : Bool := if n = 0 then (d == 1 && t == 0) else decide (Fit n ∧ 1 ≤ d ∧ ¬ Int.tmod d 2 = 0 ∧ ¬ Int.tmod d 5 = 0 ∧ ¬ Int.tmod n 10 = 0 ∧ gcdF n d = 1 ∧ -1000 ≤ t ∧ t ≤ 1000)
theorem RD_right {n d t : Int} (hn : n ≠ 0) (id : I64 d) : RD n d t = true ↔ RightP n d t := by
  unfold RD
  rw [if_neg hn, decide_eq_true_iff]
  constructor
  · rintro ⟨h1, h2, h3, h4, h5, h6, h7, h8⟩
    refine ⟨hn, h1, by unfold I64 at id; unfold Fit; omega, by omega, fun h => h3 (Int.tmod_eq_zero_of_dvd h), fun h => h4 (Int.tmod_eq_zero_of_dvd h), fun h => h5 (Int.tmod_eq_zero_of_dvd h), ?_, h7, h8⟩
    unfold gcdF at h6
    rw [if_pos ⟨h1.1, by omega⟩] at h6
    have : Int.gcd n d = 1 := by omega
    exact this
  · intro h
    refine ⟨h.fn, by have := h.pos; omega, fun c => h.d2 (Int.dvd_of_tmod_eq_zero c), fun c => h.d5 (Int.dvd_of_tmod_eq_zero c), fun c => h.n10 (Int.dvd_of_tmod_eq_zero c), ?_, h.lo, h.hi⟩
    unfold gcdF
    rw [if_pos ⟨h.fn.1, h.fd.1⟩]
    have : Int.gcd n d = 1 := h.co
    omega
theorem right_tail {g : Nat → Option Int} {n d t : Int} (hg : Ev g (gcdF n d)) (i : I64 n) (hn : n ≠ 0) : Ev (fun k => if -9223372036854775807 ≤ n then (if d ≥ 1 then (if (Int.tmod d 2) = 0 then (some false) else (if (Int.tmod d 5) = 0 then (some false) else (if (Int.tmod n 10) = 0 then (some false) else ((g k).bind fun t121 => (if t121 = 1 then (if t ≥ (-1000) then (some (decide (t ≤ 1000))) else (some false)) else (some false)))))) else (some false)) else some false) (RD n d t) := by
  obtain ⟨C, hC⟩ : ∃ C, RD n d t = C := ⟨_, rfl⟩
  rw [hC]
  have no : ¬ (Fit n ∧ 1 ≤ d ∧ ¬ Int.tmod d 2 = 0 ∧ ¬ Int.tmod d 5 = 0 ∧ ¬ Int.tmod n 10 = 0 ∧ gcdF n d = 1 ∧ -1000 ≤ t ∧ t ≤ 1000) → C = false := fun h => by
    rw [← hC]; unfold RD; rw [if_neg hn, decide_eq_false h]
  by_cases c1 : -9223372036854775807 ≤ n
  · by_cases c2 : d ≥ 1
    · by_cases c3 : Int.tmod d 2 = 0
      · rw [no (fun h => h.2.2.1 c3)]
        exact Ev.congr (fun k => by rw [if_pos c1, if_pos c2, if_pos c3]) (Ev.now _)
      · by_cases c4 : Int.tmod d 5 = 0
        · rw [no (fun h => h.2.2.2.1 c4)]
          exact Ev.congr (fun k => by rw [if_pos c1, if_pos c2, if_neg c3, if_pos c4]) (Ev.now _)
        · by_cases c5 : Int.tmod n 10 = 0
          · rw [no (fun h => h.2.2.2.2.1 c5)]
            exact Ev.congr (fun k => by rw [if_pos c1, if_pos c2, if_neg c3, if_neg c4, if_pos c5]) (Ev.now _)
          · refine Ev.congr (fun k => by rw [if_pos c1, if_pos c2, if_neg c3, if_neg c4, if_neg c5]) (hg.bind (Ev.congr (f := fun _ => some C) (fun k => ?_) (Ev.now _)))
            by_cases c6 : gcdF n d = 1
            · rw [if_pos c6]
              by_cases c7 : t ≥ -1000
              · rw [if_pos c7, ← hC]
                have fn : Fit n := by unfold I64 at i; unfold Fit; omega
                unfold RD
                rw [if_neg hn]
                congr 1
                exact decide_eq_decide.2 ⟨fun h => ⟨fn, by omega, c3, c4, c5, c6, by omega, h⟩, fun h => h.2.2.2.2.2.2.2⟩
              · rw [if_neg c7, no (fun h => c7 h.2.2.2.2.2.2.1)]
            · rw [if_neg c6, no (fun h => c6 h.2.2.2.2.2.1)]
    · rw [no (fun h => c2 h.2.1)]
      exact Ev.congr (fun k => by rw [if_pos c1, if_neg c2]) (Ev.now _)
  · rw [no (fun h => c1 h.1.1)]
    exact Ev.congr (fun k => by rw [if_neg c1]) (Ev.now _)
theorem Right_ev {n d t : Int} (i : I64 n) (id : I64 d) : Ev (fun k => frac_Right.f k n d t) (RD n d t) := by
  by_cases h0 : n = 0
  · refine Ev.congr (f := fun _ => some _) (fun k => ?_) (Ev.now _)
    unfold frac_Right.f RD
    rw [if_pos h0, if_pos h0]
    simp [h0]
  · refine Ev.congr (fun k => ?_) (right_tail (Gcd_ev n d i id) i h0)
    unfold frac_Right.f
    rw [if_neg h0, Fits_eq, bs_]
    unfold fits
    by_cases c1 : -9223372036854775807 ≤ n
    · rw [decide_eq_true c1, if_pos rfl, if_pos c1]
    · rw [decide_eq_false c1, if_neg (by decide), if_neg c1]
theorem refRight_ev {n d t : Int} (i : I64 n) (id : I64 d) : Ev (fun k => drachmref02_Right.f k n d t) (RD n d t) := by
  by_cases h0 : n = 0
  · refine Ev.congr (f := fun _ => some _) (fun k => ?_) (Ev.now _)
    unfold drachmref02_Right.f RD
    rw [refFits_eq, bs_, if_pos h0, if_pos h0]
    by_cases h1 : d = 1
    · rw [if_pos h1]; simp [h1]
    · rw [if_neg h1]; simp [h1]
  · refine Ev.congr (fun k => ?_) (right_tail (refGcd_ev n d i id) i h0)
    unfold drachmref02_Right.f
    rw [refFits_eq, bs_, if_neg h0]
    unfold fits
    by_cases c1 : -9223372036854775807 ≤ n
    · rw [decide_eq_true c1, if_pos rfl, if_pos c1]
    · rw [decide_eq_false c1, if_neg (by decide), if_neg c1]
end Go.Proofs.YtnndaackjgnhhaaDoor.Fr
