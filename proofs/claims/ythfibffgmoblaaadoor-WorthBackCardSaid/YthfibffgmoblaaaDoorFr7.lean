/- What the reference's Make, Mul, Div and Pow come to: the same. Conditions: 64-bit numbers. -/
import Derived.Test.YthfibffgmoblaaaDoorFr5
namespace Go.Proofs.YthfibffgmoblaaaDoor.Fr
open Go.RowKit Go.Proofs.YthfibffgmoblaaaDoor.Wh Go.Proofs.YthfibffgmoblaaaDoor.PB Go.Proofs.YthfibffgmoblaaaDoor.PC Go.Proofs.YthfibffgmoblaaaDoor.PD Go.Proofs.YthfibffgmoblaaaDoorW.PrintWords Go.Proofs.YthfibffgmoblaaaDoorW.PrintLast Go.Proofs.YthfibffgmoblaaaDoorW.PrintMore
set_option linter.unusedVariables false
def Sg (sg : Int) : Prop := sg = 1 ∨ sg = -1
theorem Sg.fit {sg x : Int} (h : Sg sg) : Fit (sg * x) ↔ Fit x := by rcases h with rfl | rfl <;> (rw [fit_iff, fit_iff, Int.natAbs_mul]; simp)
theorem Sg.mul {a b : Int} (h : Sg a) (h' : Sg b) : Sg (a * b) := by rcases h with rfl | rfl <;> rcases h' with rfl | rfl <;> (unfold Sg; omega)
theorem Sg.pow {a : Int} (h : Sg a) (n : Nat) : Sg (a ^ n) := by
  induction n with
  | zero => exact Or.inl (by simp)
  | succ n ih => rw [Int.pow_succ]; exact ih.mul h
theorem Sg.nf {sg p q s t : Int} (h : Sg sg) (x : NF p q s t) : NF (sg * p) q s t ∧ ev (sg * p) q s t = sg * ev p q s t := by
  rcases h with rfl | rfl
  · rw [Int.one_mul]; exact ⟨x, by rw [Rat.intCast_one, Rat.one_mul]⟩
  · rw [show -1 * p = -p by omega]
    refine ⟨⟨x.hu.neg, x.hd, x.pos, by rw [Int.natAbs_neg]; exact x.co⟩, ?_⟩
    unfold ev
    rw [Rat.intCast_neg, Rat.intCast_neg, Rat.intCast_one]
    rw [Rat.div_def, Rat.div_def]
    grind
theorem of1_ev {num den : Int} (hn : 0 < num) (fn : Fit num) (hd : 0 < den) (fd : Fit den) : ∃ p q s t, (∀ sg, Ev (fun k => drachmref02_of.j1 k num den sg 0 0 0 0) (sg, p, q, s, t)) ∧ 0 < p ∧ NF p q s t ∧ ev p q s t = (num : Rat) / den ∧ Fit p ∧ Fit q ∧ -63 ≤ s ∧ s ≤ 63 ∧ -63 ≤ t ∧ t ≤ 63 := by
  obtain ⟨a, u1, s1, e1, q1, ja, n1, f1⟩ := splitF_spec (b := 2) (show num ≠ 0 by omega) fn (by decide)
  obtain ⟨b, d1, s2, e2, q2, jb, n2, f2⟩ := splitF_spec (b := 2) (show den ≠ 0 by omega) fd (by decide)
  obtain ⟨c, u2, s3, e3, q3, jc, n3, f3⟩ := splitF_spec (b := 5) n1 f1 (by decide)
  obtain ⟨e, d2, s4, e4, q4, je, n4, f4⟩ := splitF_spec (b := 5) n2 f2 (by decide)
  obtain ⟨x, y, hgc, hg, hx, hy, hco, hgl⟩ := gcd_parts n3 f3 f4
  have pp : ∀ (j : Nat) (b r z : Int), 0 < b → z = r * b ^ j → 0 < z → 0 < r := fun j b r z hb hz h0 => by
    rw [hz] at h0
    exact Int.pos_of_mul_pos_left h0 (show 0 < b ^ j from Int.pow_pos hb)
  have u1p := pp a 2 u1 num (by decide) e1 hn
  have d1p := pp b 2 d1 den (by decide) e2 hd
  have u2p := pp c 5 u2 u1 (by decide) e3 u1p
  have d2p := pp e 5 d2 d1 (by decide) e4 d1p
  have p1 := refSplit_ev num 2 fn.i64
  have p2 := refSplit_ev den 2 fd.i64
  have p3 := refSplit_ev u1 5 f1.i64
  have p4 := refSplit_ev d1 5 f2.i64
  have p5 := refGcd_ev u2 d2 f3.i64 f4.i64
  rw [s1] at p1
  rw [s2] at p2
  rw [s3] at p3
  rw [s4] at p4
  generalize gcdF u2 d2 = g at *
  have c2 : Ct u2 := Ct.of (fun h => q1 (by rw [e3]; exact Int.dvd_mul_of_dvd_left h)) q3
  have c4 : Ct d2 := Ct.of (fun h => q2 (by rw [e4]; exact Int.dvd_mul_of_dvd_left h)) q4
  have cx : Ct x := c2.of_dvd ⟨g, by rw [Int.mul_comm]; exact hx⟩
  have cy : Ct y := c4.of_dvd ⟨g, by rw [Int.mul_comm]; exact hy⟩
  have fx : Fit x := fit_of_mul (g := g) (by omega) (hx ▸ f3)
  have fy : Fit y := fit_of_mul (g := g) (by omega) (hy ▸ f4)
  have eN : num = u2 * 5 ^ c * 2 ^ a := by rw [← e3, ← e1]
  have eD : den = d2 * 5 ^ e * 2 ^ b := by rw [← e4, ← e2]
  have b1 : wrap64 ((a : Int) - b) = (a : Int) - b := w64 (by omega) (by omega)
  have b2 : wrap64 ((c : Int) - e) = (c : Int) - e := w64 (by omega) (by omega)
  have px : 0 < x := by rw [hx, Int.mul_comm] at u2p; exact Int.pos_of_mul_pos_left u2p hg
  have py : 0 < y := by rw [hy, Int.mul_comm] at d2p; exact Int.pos_of_mul_pos_left d2p hg
  have fx' := fx
  have fy' := fy
  unfold Fit at fx' fy'
  refine ⟨x, y, (a : Int) - b, (c : Int) - e, fun sg => ?_, px, ⟨cx, cy, py, hco⟩, quot_ev eN eD hx hy (by omega) cy.ne (Or.inl ⟨rfl, rfl⟩), fx, fy, by omega, by omega, by omega, by omega⟩
  refine Ev.step (f := fun k => (drachmref01_Split.f k num 2).bind fun bt144 => ((drachmref01_Split.f k bt144.2 5).bind fun bt147 => ((drachmref01_Split.f k den 2).bind fun bt150 => ((drachmref01_Split.f k bt150.2 5).bind fun bt153 => ((drachmref01_Gcd.f k bt147.2 bt153.2).bind fun t156 => (if t156 = 0 then (none) else (some (sg, wrap64 (Int.tdiv bt147.2 t156), wrap64 (Int.tdiv bt153.2 t156), wrap64 (bt144.1 - bt150.1), wrap64 (bt147.1 - bt153.1)))))))))
    (fun k => by simp only [drachmref02_of.j1]) (p1.bind (p3.bind (p2.bind (p4.bind (p5.bind (Ev.congr (f := fun _ => some (sg, x, y, (a : Int) - b, (c : Int) - e)) (fun k => ?_) (Ev.now _)))))))
  show (if g = 0 then none else _) = _
  rw [if_neg (by omega)]
  have t1 : Int.tdiv u2 g = x := by rw [hx, tdiv_mul (by omega)]
  have t2 : Int.tdiv d2 g = y := by rw [hy, tdiv_mul (by omega)]
  rw [t1, t2, b1, b2, w64 (x := x) (by omega) (by omega), w64 (x := y) (by omega) (by omega)]
theorem of_ev {num den : Int} (hn : num ≠ 0) (fn : Fit num) (hd : den ≠ 0) (fd : Fit den) : ∃ sg p q s t, Ev (fun k => drachmref02_of.f k num den) (sg, p, q, s, t) ∧ Sg sg ∧ 0 < p ∧ NF (sg * p) q s t ∧ ev (sg * p) q s t = (num : Rat) / den ∧ Fit p ∧ Fit q ∧ -63 ≤ s ∧ s ≤ 63 ∧ -63 ≤ t ∧ t ≤ 63 ∧ 0 < q := by
  have fn' := fn
  have fd' := fd
  unfold Fit at fn' fd'
  have j0 : ∀ (n1 sg0 : Int), 0 < n1 → Fit n1 → Sg sg0 → (num : Rat) = sg0 * n1 → ∃ sg p q s t, Ev (fun k => drachmref02_of.j0 k n1 den sg0 0 0 0 0) (sg, p, q, s, t) ∧ Sg sg ∧ 0 < p ∧ NF (sg * p) q s t ∧ ev (sg * p) q s t = (num : Rat) / den ∧ Fit p ∧ Fit q ∧ -63 ≤ s ∧ s ≤ 63 ∧ -63 ≤ t ∧ t ≤ 63 ∧ 0 < q := by
    intro n1 sg0 hn1 fn1 hsg hcast
    by_cases neg : den < 0
    · obtain ⟨p, q, s, t, hev, hp, nf, e, fp, fq, r⟩ := of1_ev hn1 fn1 (show 0 < -den by omega) (by unfold Fit; omega)
      have hs : Sg (-sg0) := by unfold Sg at *; omega
      have n := hs.nf nf
      refine ⟨-sg0, p, q, s, t, Ev.step (fun k => ?_) (hev (-sg0)), hs, hp, n.1, ?_, fp, fq, r.1, r.2.1, r.2.2.1, r.2.2.2, nf.pos⟩
      · simp only [drachmref02_of.j0]
        rw [if_pos neg, w64 (x := -den) (by omega) (by omega), w64 (x := -sg0) (by unfold Sg at hsg; omega) (by unfold Sg at hsg; omega)]
      · rw [n.2, e, hcast, Rat.intCast_neg, Rat.intCast_neg]
        have := cast_ne hd
        grind
    · obtain ⟨p, q, s, t, hev, hp, nf, e, fp, fq, r⟩ := of1_ev hn1 fn1 (show 0 < den by omega) fd
      have n := hsg.nf nf
      refine ⟨sg0, p, q, s, t, Ev.step (fun k => ?_) (hev sg0), hsg, hp, n.1, ?_, fp, fq, r.1, r.2.1, r.2.2.1, r.2.2.2, nf.pos⟩
      · simp only [drachmref02_of.j0]
        rw [if_neg neg]
      · rw [n.2, e, hcast, Rat.div_def, Rat.div_def]
        grind
  by_cases neg : num < 0
  · obtain ⟨sg, p, q, s, t, h, r⟩ := j0 (-num) (-1) (by omega) (by unfold Fit; omega) (Or.inr rfl) (by rw [Rat.intCast_neg, Rat.intCast_neg, Rat.intCast_one]; grind)
    refine ⟨sg, p, q, s, t, Ev.congr (fun k => ?_) h, r⟩
    unfold drachmref02_of.f
    rw [if_pos neg, w64 (x := -num) (by omega) (by omega)]
  · obtain ⟨sg, p, q, s, t, h, r⟩ := j0 num 1 (by omega) fn (Or.inl rfl) (by rw [Rat.intCast_one, Rat.one_mul])
    refine ⟨sg, p, q, s, t, Ev.congr (fun k => ?_) h, r⟩
    unfold drachmref02_of.f
    rw [if_neg neg]
/-! the reference's form -/
def tailR (ten least sg q n : Int) : R4 := if -2000 ≤ ten ∧ ten ≤ 2000 ∧ -1000 ≤ ten + least ∧ ten + least ≤ 1000 then (sg * n, q, ten + least, 0) else (0, 0, 0, 10)
theorem form_loop {ten bye least times a b c d e : Int} (hb : bye = 2 ∨ bye = 5) (hsg : Sg a) (bl : -1000000 ≤ least ∧ least ≤ 1000000) (ht : times ≤ 10000000) :
    ∀ (j : Nat) (n i : Int), 0 < n → Fit n → 0 ≤ i → i + j = times → Ev (fun k => drachmref02_form.l0 k ten bye least times n i a b c d e) (if Fit (n * bye ^ j) then tailR ten least a c (n * bye ^ j) else (0, 0, 0, 10))
  | 0, n, i, h0, hf, hi, hj => by
    rw [Int.pow_zero, Int.mul_one, if_pos hf]
    refine Ev.step (f := fun _ => some (tailR ten least a c n)) (fun k => ?_) (Ev.now _)
    simp only [drachmref02_form.l0]
    have hf' := (hsg.fit (x := n)).2 hf
    rw [if_neg (by omega), w64 (x := a * n) (by unfold Fit at hf'; omega) (by unfold Fit at hf'; omega)]
    unfold tailR
    by_cases c1 : ten < -2000
    · rw [if_pos c1, if_neg (by omega)]
    · by_cases c2 : ten > 2000
      · rw [if_neg c1, if_pos c2, if_neg (by omega)]
      · rw [w64 (x := ten + least) (by omega) (by omega)]
        by_cases c3 : ten + least < -1000
        · rw [if_neg c1, if_neg c2, if_pos c3, if_neg (by omega)]
        · by_cases c4 : ten + least > 1000
          · rw [if_neg c1, if_neg c2, if_neg c3, if_pos c4, if_neg (by omega)]
          · rw [if_neg c1, if_neg c2, if_neg c3, if_neg c4, if_pos (by omega)]
  | j + 1, n, i, h0, hf, hi, hj => by
    have fb : Fit bye := by unfold Fit; omega
    have m := refMul_ev n bye hf.i64 fb.i64
    have e1 : n * bye ^ (j + 1) = n * bye * bye ^ j := by rw [Int.pow_succ]; grind
    have w : wrap64 (i + 1) = i + 1 := w64 (by omega) (by omega)
    by_cases hm : Fit (n * bye)
    · rw [mulF_fit hf fb hm] at m
      have ih := form_loop (ten := ten) (a := a) (b := b) (c := c) (d := d) (e := e) hb hsg bl ht j (n * bye) (i + 1) (Int.mul_pos h0 (by omega)) hm (by omega) (by omega)
      rw [e1]
      refine Ev.step (f := fun k => (drachmref01_Mul.f k n bye).bind fun bt136 => (if bt136.2 = true then (drachmref02_form.l0 k ten bye least times bt136.1 (i + 1) a b c d e) else (some (0, 0, 0, 10)))) (fun k => ?_) (m.bind (Ev.congr (fun k => by rw [if_pos (by rfl)]) ih))
      simp only [drachmref02_form.l0]
      rw [if_pos (by omega), w]
    · rw [mulF_not hm] at m
      rw [if_neg (fun c => hm (by
        rw [e1, fit_iff] at c
        rw [fit_iff]
        have := natAbs_le_mul (a := n * bye) (b := bye ^ j) (Int.pow_ne_zero (by omega))
        omega))]
      refine Ev.step (f := fun k => (drachmref01_Mul.f k n bye).bind fun bt136 => (if bt136.2 = true then (drachmref02_form.l0 k ten bye least times bt136.1 (i + 1) a b c d e) else (some (0, 0, 0, 10)))) (fun k => ?_) (m.bind (Ev.congr (f := fun _ => some (0, 0, 0, 10)) (fun k => by rw [if_neg (by decide)]) (Ev.now _)))
      simp only [drachmref02_form.l0]
      rw [if_pos (by omega), w]
theorem refform_ev {sg p q s t ten : Int} (hsg : Sg sg) (hp : 0 < p) (fp : Fit p) (fq : Fit q) (bs : -100000 ≤ s ∧ s ≤ 100000) (bt : -100000 ≤ t ∧ t ≤ 100000)
    (hten : (-2000 ≤ ten ∧ ten ≤ 2000) ∨ enc (sg * p) q (s + ten) (t + ten) = (0, 0, 0, 10)) : Ev (fun k => drachmref02_form.f k sg p q s t ten) (enc (sg * p) q (s + ten) (t + ten)) := by
  have fin : ∀ (j : Nat) (bye : Int), nm (sg * p) s t = sg * (p * bye ^ j) → (if Fit (p * bye ^ j) then tailR ten (lw s t) sg q (p * bye ^ j) else (0, 0, 0, 10)) = enc (sg * p) q (s + ten) (t + ten) := by
    intro j bye hnm
    rcases hten with h | h
    · unfold enc
      rw [nm_ten, lw_ten, hnm]
      by_cases c : Fit (p * bye ^ j)
      · rw [if_pos c]
        unfold tailR
        by_cases c2 : -1000 ≤ lw s t + ten ∧ lw s t + ten ≤ 1000
        · rw [if_pos (by omega), if_pos ⟨hsg.fit.2 c, fq, c2⟩, Int.add_comm ten]
        · rw [if_neg (by omega), if_neg (fun z => c2 z.2.2)]
      · rw [if_neg c, if_neg (fun z => c (hsg.fit.1 z.1))]
    · have h' := h
      rw [h]
      by_cases c : Fit (p * bye ^ j)
      · rw [if_pos c]
        unfold tailR
        rw [if_neg]
        rintro ⟨a1, a2, a3, a4⟩
        unfold enc at h'
        rw [nm_ten, lw_ten, hnm, if_pos ⟨hsg.fit.2 c, fq, by omega, by omega⟩] at h'
        simp at h'
      · rw [if_neg c]
  by_cases g : t > s
  · have l : lw s t = s := by unfold lw; rw [if_neg (by omega)]
    have h := form_loop (ten := ten) (bye := 5) (least := s) (times := t - s) (a := sg) (b := p) (c := q) (d := s) (e := t) (Or.inr rfl) hsg (by omega) (by omega) (t - s).toNat p 0 hp fp (by omega) (by omega)
    have f := fin (t - s).toNat 5 (by unfold nm; rw [l, Int.sub_self, Int.toNat_zero, Int.pow_zero]; grind)
    rw [l] at f
    rw [f] at h
    refine Ev.congr (f := fun k => drachmref02_form.j0 k ten 5 s (t - s) sg p q s t) (fun k => ?_) (Ev.step (fun k => ?_) h)
    · unfold drachmref02_form.f
      rw [if_pos g, w64 (x := t - s) (by omega) (by omega)]
    · simp only [drachmref02_form.j0]
  · have l : lw s t = t := by unfold lw; by_cases z : t < s; · rw [if_pos z]
                              · rw [if_neg z]; omega
    have h := form_loop (ten := ten) (bye := 2) (least := t) (times := s - t) (a := sg) (b := p) (c := q) (d := s) (e := t) (Or.inl rfl) hsg (by omega) (by omega) (s - t).toNat p 0 hp fp (by omega) (by omega)
    have f := fin (s - t).toNat 2 (by unfold nm; rw [l, Int.sub_self, Int.toNat_zero, Int.pow_zero]; grind)
    rw [l] at f
    rw [f] at h
    refine Ev.congr (f := fun k => drachmref02_form.j0 k ten 2 t (s - t) sg p q s t) (fun k => ?_) (Ev.step (fun k => ?_) h)
    · unfold drachmref02_form.f
      rw [if_neg g, w64 (x := s - t) (by omega) (by omega)]
    · simp only [drachmref02_form.j0]
theorem RMake_ev {num den ten : Int} (i1 : I64 num) (i2 : I64 den) : ∃ r, Ev (fun k => drachmref02_Make.f k num den ten) r ∧ MakeS num den ten r := by
  have ff : ∀ x, I64 x → (fits x = true ↔ Fit x) := fun x h => by unfold fits Fit; unfold I64 at h; rw [decide_eq_true_iff]; omega
  have arg : ∀ b : Bool, b = true → Ev (fun k => drachmref02_Make.j0 k num den ten b) (0, 0, 0, 1) := fun b hb => by
    refine Ev.step (f := fun _ => some (0, 0, 0, 1)) (fun k => ?_) (Ev.now _)
    simp only [drachmref02_Make.j0]; rw [if_pos hb]
  by_cases h : Fit num ∧ Fit den
  · have go : ∀ r, Ev (fun k => drachmref02_Make.j0 k num den ten false) r → Ev (fun k => drachmref02_Make.f k num den ten) r := fun r hr => by
      refine Ev.congr (fun k => ?_) hr
      unfold drachmref02_Make.f
      rw [refFits_eq, bs_, refFits_eq, bs_, (ff num i1).2 h.1, (ff den i2).2 h.2, if_pos rfl]; rfl
    by_cases d0 : den = 0
    · refine ⟨(0, 0, 0, 11), go _ (Ev.step (f := fun _ => some (0, 0, 0, 11)) (fun k => ?_) (Ev.now _)), Or.inr (Or.inl ⟨h.1, h.2, d0, rfl⟩)⟩
      simp only [drachmref02_Make.j0]; rw [if_neg (by decide), if_pos d0]
    · by_cases n0 : num = 0
      · refine ⟨(0, 1, 0, 0), go _ (Ev.step (f := fun _ => some (0, 1, 0, 0)) (fun k => ?_) (Ev.now _)), Or.inr (Or.inr (Or.inl ⟨h.1, h.2, d0, n0, rfl⟩))⟩
        simp only [drachmref02_Make.j0]; rw [if_neg (by decide), if_neg d0, if_pos n0]
      · obtain ⟨sg, p, q, s, t, hl, hsg, hp, nf, e, fp, fq, s1, s2, t1, t2, hq⟩ := of_ev n0 h.1 d0 h.2
        have en : Enc ((num : Rat) / den * (10 : Rat) ^ ten) (enc (sg * p) q (s + ten) (t + ten)) := ⟨sg * p, q, _, _, nf_shift nf _ _, by rw [ev_ten, e], rfl⟩
        have f := refform_ev (ten := ten) hsg hp fp fq (s := s) (t := t) (by omega) (by omega) (by
          by_cases far : ten < -2000 ∨ ten > 2000
          · exact Or.inr (enc_far ⟨s1, s2⟩ ⟨t1, t2⟩ far)
          · exact Or.inl (by omega))
        refine ⟨_, go _ (Ev.step (f := fun k => (drachmref02_of.f k num den).bind fun c => (drachmref02_form.f k c.1 c.2.1 c.2.2.1 c.2.2.2.1 c.2.2.2.2 ten).bind fun b => some (b.1, b.2.1, b.2.2.1, b.2.2.2)) (fun k => ?_) (hl.bind (bind4 _ _ f))), Or.inr (Or.inr (Or.inr ⟨h.1, h.2, d0, n0, en⟩))⟩
        simp only [drachmref02_Make.j0]; rw [if_neg (by decide), if_neg d0, if_neg n0]
  · refine ⟨(0, 0, 0, 1), ?_, Or.inl ⟨h, rfl⟩⟩
    by_cases h1 : Fit num
    · refine Ev.congr (fun k => ?_) (arg (!fits den) (by have := (ff den i2); cases e : fits den with | true => exact absurd ⟨h1, this.1 e⟩ h | false => rfl))
      unfold drachmref02_Make.f
      rw [refFits_eq, bs_, refFits_eq, bs_, (ff num i1).2 h1, if_pos rfl]
    · refine Ev.congr (fun k => ?_) (arg true rfl)
      unfold drachmref02_Make.f
      rw [refFits_eq, bs_, refFits_eq, bs_, if_neg (fun c => h1 ((ff num i1).1 c))]
end Go.Proofs.YthfibffgmoblaaaDoor.Fr
