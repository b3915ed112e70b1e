/- What frac.Make, Mul, Div and Pow come to: the one frac that has the value, or an error. Conditions: 64-bit numbers. -/
import Derived.Test.YtnndaackjgnhhaaDoorFr4
import Derived.Test.YtnndaackjgnhhaaDoorPDx
namespace Go.Proofs.YtnndaackjgnhhaaDoor.Fr
open Go.RowKit Go.Proofs.YtnndaackjgnhhaaDoor.Wh Go.Proofs.YtnndaackjgnhhaaDoor.PB Go.Proofs.YtnndaackjgnhhaaDoor.PC Go.Proofs.YtnndaackjgnhhaaDoor.PD Go.Proofs.YtnndaackjgnhhaaDoorW.PrintWords Go.Proofs.YtnndaackjgnhhaaDoorW.PrintLast Go.Proofs.YtnndaackjgnhhaaDoorW.PrintMore
set_option linter.unusedVariables false
abbrev R4 := Int × Int × Int × Int
def MakeS (num den ten : Int) (r : R4) : Prop :=
  (¬ (Fit num ∧ Fit den) ∧ r = (0, 0, 0, 1)) ∨ (Fit num ∧ Fit den ∧ den = 0 ∧ r = (0, 0, 0, 11)) ∨ (Fit num ∧ Fit den ∧ den ≠ 0 ∧ num = 0 ∧ r = (0, 1, 0, 0)) ∨ (Fit num ∧ Fit den ∧ den ≠ 0 ∧ num ≠ 0 ∧ Enc ((num : Rat) / den * (10 : Rat) ^ ten) r)
theorem MakeS.unique {num den ten : Int} {r r' : R4} (h : MakeS num den ten r) (h' : MakeS num den ten r') : r = r' := by
  rcases h with ⟨a, rfl⟩ | ⟨a1, a2, a3, rfl⟩ | ⟨a1, a2, a3, a4, rfl⟩ | ⟨a1, a2, a3, a4, a5⟩ <;> rcases h' with ⟨b, rfl⟩ | ⟨b1, b2, b3, rfl⟩ | ⟨b1, b2, b3, b4, rfl⟩ | ⟨b1, b2, b3, b4, b5⟩
  all_goals first | rfl | (exact Enc.unique a5 b5) | (exfalso; first | exact a ⟨b1, b2⟩ | exact b ⟨a1, a2⟩ | exact a3 b3 | exact b3 a3 | exact a4 b4 | exact b4 a4)
theorem enc_far {u d s t ten : Int} (bs : -63 ≤ s ∧ s ≤ 63) (bt : -63 ≤ t ∧ t ≤ 63) (h : ten < -2000 ∨ ten > 2000) : enc u d (s + ten) (t + ten) = (0, 0, 0, 10) := by
  unfold enc
  rw [if_neg]
  rintro ⟨_, _, h1, h2⟩
  rw [lw_ten] at h1 h2
  unfold lw at h1 h2
  split at h1 <;> split at h2 <;> omega
theorem bind4 (f : Nat → Option R4) (r : R4) (h : Ev f r) : Ev (fun k => (f k).bind fun b => some (b.1, b.2.1, b.2.2.1, b.2.2.2)) r := h.bind (Ev.now _)
theorem FMake_ev {num den ten : Int} (i1 : I64 num) (i2 : I64 den) : ∃ r, Ev (fun k => frac_Make.f k num den ten) r ∧ MakeS num den ten r := by
  have ff : ∀ x, I64 x → (fits x = true ↔ Fit x) := fun x h => by unfold fits Fit; unfold I64 at h; rw [decide_eq_true_iff]; omega
  have arg : ∀ b : Bool, b = true → Ev (fun k => frac_Make.j0 k num den ten b) (0, 0, 0, 1) := fun b hb => by
    refine Ev.step (f := fun _ => some (0, 0, 0, 1)) (fun k => ?_) (Ev.now _)
    simp only [frac_Make.j0]; rw [if_pos hb]
  by_cases h : Fit num ∧ Fit den
  · have go : ∀ r, Ev (fun k => frac_Make.j0 k num den ten false) r → Ev (fun k => frac_Make.f k num den ten) r := fun r hr => by
      refine Ev.congr (fun k => ?_) hr
      unfold frac_Make.f
      rw [Fits_eq, bs_, Fits_eq, bs_, (ff num i1).2 h.1, (ff den i2).2 h.2, if_pos rfl]; rfl
    by_cases d0 : den = 0
    · refine ⟨(0, 0, 0, 11), go _ (Ev.step (f := fun _ => some (0, 0, 0, 11)) (fun k => ?_) (Ev.now _)), Or.inr (Or.inl ⟨h.1, h.2, d0, rfl⟩)⟩
      simp only [frac_Make.j0]; rw [if_neg (by decide), if_pos d0]
    · by_cases n0 : num = 0
      · refine ⟨(0, 1, 0, 0), go _ (Ev.step (f := fun _ => some (0, 1, 0, 0)) (fun k => ?_) (Ev.now _)), Or.inr (Or.inr (Or.inl ⟨h.1, h.2, d0, n0, rfl⟩))⟩
        simp only [frac_Make.j0]; rw [if_neg (by decide), if_neg d0, if_pos n0]
      · obtain ⟨u, d, s, t, hl, nf, e, fu, fd, s1, s2, t1, t2⟩ := loosen_ev n0 h.1 d0 h.2
        have en : Enc ((num : Rat) / den * (10 : Rat) ^ ten) (enc u d (s + ten) (t + ten)) := ⟨u, d, _, _, nf_shift nf _ _, by rw [ev_ten, e], rfl⟩
        by_cases far : ten < -2000 ∨ ten > 2000
        · rw [enc_far ⟨s1, s2⟩ ⟨t1, t2⟩ far] at en
          refine ⟨_, go _ (Ev.step (f := fun k => frac_Make.j1 k num den ten true) (fun k => ?_) (Ev.step (f := fun _ => some (0, 0, 0, 10)) (fun k => ?_) (Ev.now _))), Or.inr (Or.inr (Or.inr ⟨h.1, h.2, d0, n0, en⟩))⟩
          · simp only [frac_Make.j0]; rw [if_neg (by decide), if_neg d0, if_neg n0]
            by_cases g : ten < -2000
            · rw [if_pos g]
            · rw [if_neg g, decide_eq_true (by omega)]
          · simp only [frac_Make.j1]; rw [if_pos trivial]
        · have f := form_ev (ten := ten) nf.hu.ne fu fd (s := s) (t := t) (by omega) (by omega) (by omega)
          refine ⟨_, go _ (Ev.step (f := fun k => frac_Make.j1 k num den ten false) (fun k => ?_) (Ev.step (f := fun k => (frac_loosen.f k num den).bind fun c => (frac_loose_form.f k c.1 c.2.1 c.2.2.1 c.2.2.2 ten).bind fun b => some (b.1, b.2.1, b.2.2.1, b.2.2.2)) (fun k => ?_) (hl.bind (bind4 _ _ f)))), Or.inr (Or.inr (Or.inr ⟨h.1, h.2, d0, n0, en⟩))⟩
          · simp only [frac_Make.j0]; rw [if_neg (by decide), if_neg d0, if_neg n0, if_neg (by omega), decide_eq_false (by omega)]
          · simp only [frac_Make.j1]; rw [if_neg (by decide)]
  · refine ⟨(0, 0, 0, 1), ?_, Or.inl ⟨h, rfl⟩⟩
    by_cases h1 : Fit num
    · refine Ev.congr (fun k => ?_) (arg (!fits den) (by have := (ff den i2); cases e : fits den with | true => exact absurd ⟨h1, this.1 e⟩ h | false => rfl))
      unfold frac_Make.f
      rw [Fits_eq, bs_, Fits_eq, bs_, (ff num i1).2 h1, if_pos rfl]
    · refine Ev.congr (fun k => ?_) (arg true rfl)
      unfold frac_Make.f
      rw [Fits_eq, bs_, if_neg (fun c => h1 ((ff num i1).1 c))]
/-- a frac that is right: its loose form -/
theorem loose_of {n d t : Int} (h : RightP n d t) : ∃ u d' s t', Ev (fun k => frac_loosen.f k n d) (u, d', s, t') ∧ NF u d' s t' ∧ ev u d' (s + t) (t' + t) = val n d t ∧ Fit u ∧ Fit d' ∧ -63 ≤ s ∧ s ≤ 63 ∧ -63 ≤ t' ∧ t' ≤ 63 := by
  obtain ⟨u, d', s, t', hl, nf, e, r⟩ := loosen_ev h.nz h.fn (show d ≠ 0 by have := h.pos; omega) h.fd
  exact ⟨u, d', s, t', hl, nf, by rw [ev_ten, e]; rfl, r⟩
theorem product_ev {u d s t u' d' s' t' ten : Int} (x : NF u d s t) (y : NF u' d' s' t') (fu : Fit u) (fd : Fit d) (fu' : Fit u') (fd' : Fit d')
    (bs : -1000 ≤ s ∧ s ≤ 1000 ∧ -1000 ≤ s' ∧ s' ≤ 1000) (bt : -1000 ≤ t ∧ t ≤ 1000 ∧ -1000 ≤ t' ∧ t' ≤ 1000) (bn : -10000 ≤ ten ∧ ten ≤ 10000) :
    ∃ r, Ev (fun k => frac_product.f k u d s t u' d' s' t' ten) r ∧ Enc (ev u d s t * ev u' d' s' t' * (10 : Rat) ^ ten) r := by
  obtain ⟨r, U, D, ht, nf, e, y1, y2⟩ := times_ev x y fu fd fu' fd' (by omega) (by omega)
  have en : Enc (ev u d s t * ev u' d' s' t' * (10 : Rat) ^ ten) (enc U D (s + s' + ten) (t + t' + ten)) := ⟨U, D, _, _, nf_shift nf _ _, by rw [ev_ten, e], rfl⟩
  refine ⟨_, ?_, en⟩
  by_cases c : Fit U ∧ Fit D
  · rw [y1 c] at ht
    have f := form_ev (ten := ten) nf.hu.ne c.1 c.2 (s := s + s') (t := t + t') (by omega) (by omega) (by omega)
    exact Ev.congr (fun k => rfl) (ht.bind (Ev.congr (fun k => by rw [if_pos (by rfl)]) (bind4 _ _ f)))
  · have z := y2 c
    rw [enc_over (by by_cases q : Fit U; exact Or.inr (fun w => c ⟨q, w⟩); exact Or.inl q)]
    exact Ev.congr (fun k => rfl) (ht.bind (Ev.congr (f := fun _ => some (0, 0, 0, 10)) (fun k => by rw [if_neg (by rw [z]; decide)]) (Ev.now _)))
def MulS (n d t n' d' t' : Int) (r : R4) : Prop :=
  (¬ (RD n d t = true ∧ RD n' d' t' = true) ∧ r = (0, 0, 0, 1)) ∨ (RD n d t = true ∧ RD n' d' t' = true ∧ (n = 0 ∨ n' = 0) ∧ r = (0, 1, 0, 0)) ∨ (RD n d t = true ∧ RD n' d' t' = true ∧ ¬ (n = 0 ∨ n' = 0) ∧ Enc (val n d t * val n' d' t') r)
theorem MulS.unique {n d t n' d' t' : Int} {r r' : R4} (h : MulS n d t n' d' t' r) (h' : MulS n d t n' d' t' r') : r = r' := by
  rcases h with ⟨a, rfl⟩ | ⟨a1, a2, a3, rfl⟩ | ⟨a1, a2, a3, a5⟩ <;> rcases h' with ⟨b, rfl⟩ | ⟨b1, b2, b3, rfl⟩ | ⟨b1, b2, b3, b5⟩
  all_goals first | rfl | (exact Enc.unique a5 b5) | (exfalso; first | exact a ⟨b1, b2⟩ | exact b ⟨a1, a2⟩ | exact a3 b3 | exact b3 a3)
theorem val_mul {n d t n' d' t' : Int} {u e s q u' e' s' q' : Int} (h : ev u e (s + t) (q + t) = val n d t) (h' : ev u' e' (s' + t') (q' + t') = val n' d' t') : ev u e s q * ev u' e' s' q' * (10 : Rat) ^ (t + t') = val n d t * val n' d' t' := by
  rw [← h, ← h', ev_ten, ev_ten, Rat.zpow_add (by decide)]
  grind
theorem FMul_ev {n d t n' d' t' : Int} (i1 : I64 n) (i2 : I64 d) (i3 : I64 n') (i4 : I64 d') : ∃ r, Ev (fun k => frac_Mul.f k n d t n' d' t') r ∧ MulS n d t n' d' t' r := by
  have p1 := Right_ev (t := t) i1 i2
  have p2 := Right_ev (t := t') i3 i4
  have arg : ∀ b : Bool, b = true → Ev (fun k => frac_Mul.j0 k b n d t n' d' t') (0, 0, 0, 1) := fun b hb => by
    refine Ev.step (f := fun _ => some (0, 0, 0, 1)) (fun k => ?_) (Ev.now _)
    simp only [frac_Mul.j0]; rw [if_pos hb]
  cases r1 : RD n d t with
  | false =>
    rw [r1] at p1
    exact ⟨_, Ev.congr (fun k => rfl) (p1.bind (Ev.congr (fun k => by rw [if_neg (by decide)]) (arg true rfl))), Or.inl ⟨by simp [r1], rfl⟩⟩
  | true =>
    rw [r1] at p1
    cases r2 : RD n' d' t' with
    | false =>
      rw [r2] at p2
      exact ⟨_, Ev.congr (fun k => rfl) (p1.bind (Ev.congr (fun k => by rw [if_pos rfl]) (p2.bind (arg _ rfl)))), Or.inl ⟨by simp [r2], rfl⟩⟩
    | true =>
      rw [r2] at p2
      have go : ∀ b r, (b = true ↔ (n = 0 ∨ n' = 0)) → Ev (fun k => frac_Mul.j1 k b n d t n' d' t') r → Ev (fun k => frac_Mul.f k n d t n' d' t') r := fun b r hb hr => by
        refine Ev.congr (fun k => rfl) (p1.bind (Ev.congr (fun k => by rw [if_pos rfl]) (p2.bind (Ev.step (fun k => ?_) hr))))
        show frac_Mul.j0 (k + 1) false n d t n' d' t' = _
        simp only [frac_Mul.j0]
        rw [if_neg (by decide)]
        by_cases c : n = 0
        · rw [if_pos c, hb.2 (Or.inl c)]
        · rw [if_neg c]
          congr 1
          by_cases c' : n' = 0
          · rw [hb.2 (Or.inr c')]; simpa using c'
          · have : b = false := by cases b with | true => exact absurd (hb.1 rfl) (fun h => h.elim c c') | false => rfl
            rw [this]; simpa using c'
      by_cases z : n = 0 ∨ n' = 0
      · refine ⟨(0, 1, 0, 0), go true _ (by simp [z]) (Ev.step (f := fun _ => some (0, 1, 0, 0)) (fun k => ?_) (Ev.now _)), Or.inr (Or.inl ⟨r1, r2, z, rfl⟩)⟩
        simp only [frac_Mul.j1]; rw [if_pos trivial]
      · have R1 := (RD_right (fun h => z (Or.inl h)) i2).1 r1
        have R2 := (RD_right (fun h => z (Or.inr h)) i4).1 r2
        obtain ⟨u, e, s, q, hl, nf, hv, fu, fe, s1, s2, q1, q2⟩ := loose_of R1
        obtain ⟨u', e', s', q', hl', nf', hv', fu', fe', s1', s2', q1', q2'⟩ := loose_of R2
        have l1 := R1.lo
        have l2 := R1.hi
        have l3 := R2.lo
        have l4 := R2.hi
        obtain ⟨r, hr, en⟩ := product_ev (ten := t + t') nf nf' fu fe fu' fe' (by omega) (by omega) (by omega)
        rw [val_mul hv hv'] at en
        refine ⟨r, go false _ (by simp [z]) (Ev.step (f := fun k => (frac_loosen.f k n d).bind fun c => (frac_loosen.f k n' d').bind fun c' => (frac_product.f k c.1 c.2.1 c.2.2.1 c.2.2.2 c'.1 c'.2.1 c'.2.2.1 c'.2.2.2 (t + t')).bind fun b => some (b.1, b.2.1, b.2.2.1, b.2.2.2)) (fun k => ?_) (hl.bind (hl'.bind (bind4 _ _ hr)))), Or.inr (Or.inr ⟨r1, r2, z, en⟩)⟩
        simp only [frac_Mul.j1]; rw [if_neg (by decide), w64 (x := t + t') (by omega) (by omega)]
theorem zero_right {n d t : Int} (h : RD n d t = true) (z : n = 0) : d = 1 ∧ t = 0 := by
  unfold RD at h; rw [if_pos z] at h; simpa using h
end Go.Proofs.YtnndaackjgnhhaaDoor.Fr
