/- What frac's inner functions come to: loosening, putting together, products, what is turned. Conditions: the arguments are 64-bit numbers in form. -/
import Derived.Test.YtnndaackjgnhhaaDoorFr2
import Derived.Test.YtnndaackjgnhhaaDoorWh
import Derived.Test.YtnndaackjgnhhaaDoorPCx
import Derived.Test.YtnndaackjgnhhaaDoorH2
namespace Go.Proofs.YtnndaackjgnhhaaDoor.Fr
open Go.RowKit Go.Proofs.YtnndaackjgnhhaaDoor.Wh Go.Proofs.YtnndaackjgnhhaaDoor.PB Go.Proofs.YtnndaackjgnhhaaDoor.PC Go.Proofs.YtnndaackjgnhhaaDoorW.PrintWords Go.Proofs.YtnndaackjgnhhaaDoorW.PrintLast Go.Proofs.YtnndaackjgnhhaaDoorW.PrintMore
set_option linter.unusedVariables false
theorem Fit.i64 {x : Int} (h : Fit x) : I64 x := by unfold Fit at h; unfold I64; omega
theorem splitL_spec (b : Int) (hb : 2 ≤ b) : ∀ (m : Nat) (x k : Int), x ≠ 0 → x.natAbs ≤ m → ∃ (j : Nat) (r : Int), splitL m x b k = (k + j, r) ∧ x = r * b ^ j ∧ ¬ b ∣ r
  | 0, x, k, h, hm => by omega
  | m + 1, x, k, h, hm => by
    unfold splitL
    by_cases hd : Int.tmod x b = 0
    · rw [if_pos hd]
      have t := tdiv_lt h hb hd
      obtain ⟨j, r, e, e2, hr⟩ := splitL_spec b hb m (Int.tdiv x b) (k + 1) t.2.1 (by omega)
      refine ⟨j + 1, r, by rw [e]; congr 1; rw [Int.natCast_add]; omega, ?_, hr⟩
      rw [Int.pow_succ, ← Int.mul_assoc, ← e2, t.2.2]
    · rw [if_neg hd]
      exact ⟨0, x, by simp, by simp, fun h => hd (Int.tmod_eq_zero_of_dvd h)⟩
theorem splitF_spec {n b : Int} (hn : n ≠ 0) (hf : Fit n) (hb : 2 ≤ b) : ∃ (j : Nat) (r : Int), splitF n b = ((j : Int), r) ∧ n = r * b ^ j ∧ ¬ b ∣ r ∧ j ≤ 63 ∧ r ≠ 0 ∧ Fit r := by
  obtain ⟨j, r, e, e2, hr⟩ := splitL_spec b hb n.natAbs n 0 hn (Nat.le_refl _)
  have hr0 : r ≠ 0 := fun z => hn (by rw [e2, z, Int.zero_mul])
  have hf' := (fit_iff n).1 hf
  refine ⟨j, r, ?_, e2, hr, ?_, hr0, ?_⟩
  · unfold splitF
    rw [if_neg (by unfold Fit at hf; omega), e]; simp
  · have h1 : n.natAbs = r.natAbs * b.natAbs ^ j := by rw [← Int.natAbs_pow, ← Int.natAbs_mul, ← e2]
    have h2 : 2 ^ j ≤ b.natAbs ^ j := Nat.pow_le_pow_left (by omega) j
    have h3 : b.natAbs ^ j ≤ r.natAbs * b.natAbs ^ j := Nat.le_mul_of_pos_left _ (by omega)
    rcases Nat.lt_or_ge 63 j with g | g
    · have : 2 ^ 64 ≤ 2 ^ j := Nat.pow_le_pow_right (by decide) g
      omega
    · exact g
  · rw [fit_iff]
    have h1 : n.natAbs = r.natAbs * (b ^ j).natAbs := by rw [← Int.natAbs_mul, ← e2]
    have h3 : r.natAbs ≤ r.natAbs * (b ^ j).natAbs := Nat.le_mul_of_pos_right _ (by
      have : b ^ j ≠ 0 := Int.pow_ne_zero (by omega)
      omega)
    omega
theorem gcd_parts {a b : Int} (ha : a ≠ 0) (fa : Fit a) (fb : Fit b) : ∃ x y : Int, gcdF a b = (Int.gcd a b : Int) ∧ 0 < gcdF a b ∧ a = gcdF a b * x ∧ b = gcdF a b * y ∧ Nat.Coprime x.natAbs y.natAbs ∧ gcdF a b ≤ 9223372036854775807 := by
  have e : gcdF a b = (Int.gcd a b : Int) := by unfold gcdF; rw [if_pos ⟨fa.1, fb.1⟩]
  have hp : 0 < Int.gcd a b := Nat.gcd_pos_of_pos_left _ (by omega)
  obtain ⟨x, hx⟩ := Int.gcd_dvd_left a b
  obtain ⟨y, hy⟩ := Int.gcd_dvd_right a b
  refine ⟨x, y, e, by omega, by rw [e]; exact hx, by rw [e]; exact hy, ?_, (gcdF_le a b fa.i64 fb.i64).2⟩
  have h1 : Int.gcd a b = Int.gcd ((Int.gcd a b : Int) * x) ((Int.gcd a b : Int) * y) := by rw [← hx, ← hy]
  rw [Int.gcd_mul_left, Int.natAbs_natCast] at h1
  have h2 : Int.gcd a b * 1 = Int.gcd a b * Int.gcd x y := by rw [Nat.mul_one]; exact h1
  exact (Nat.eq_of_mul_eq_mul_left hp h2).symm
theorem tdiv_mul {g x : Int} (hg : g ≠ 0) : Int.tdiv (g * x) g = x := Int.mul_tdiv_cancel_left _ hg
theorem fit_of_mul {g x : Int} (hg : g ≠ 0) (h : Fit (g * x)) : Fit x := by
  rw [fit_iff] at h ⊢
  rw [Int.natAbs_mul] at h
  have : x.natAbs ≤ g.natAbs * x.natAbs := Nat.le_mul_of_pos_left _ (by omega)
  omega
theorem zsub2 (a b : Nat) : (2 : Rat) ^ ((a : Int) - b) * (2 : Rat) ^ b = (2 : Rat) ^ a := by
  rw [← Rat.zpow_natCast 2 b, ← Rat.zpow_natCast 2 a, ← Rat.zpow_add r2]; congr 1; omega
theorem zsub5 (a b : Nat) : (5 : Rat) ^ ((a : Int) - b) * (5 : Rat) ^ b = (5 : Rat) ^ a := by
  rw [← Rat.zpow_natCast 5 b, ← Rat.zpow_natCast 5 a, ← Rat.zpow_add r5]; congr 1; omega
/-- what is behind twos and fives, both -/
theorem quot_ev {num den u2 d2 x y g u d : Int} {a b c e : Nat} (hn : num = u2 * 5 ^ c * 2 ^ a) (hd : den = d2 * 5 ^ e * 2 ^ b) (h1 : u2 = g * x) (h2 : d2 = g * y) (hg : g ≠ 0) (hy : y ≠ 0) (hs : u = x ∧ d = y ∨ u = -x ∧ d = -y) :
    ev u d ((a : Int) - b) ((c : Int) - e) = (num : Rat) / den := by
  have z2 := zsub2 a b
  have z5 := zsub5 c e
  have n2 : (2 : Rat) ^ b ≠ 0 := by rw [← Rat.zpow_natCast]; exact zpos2 _
  have n5 : (5 : Rat) ^ e ≠ 0 := by rw [← Rat.zpow_natCast]; exact zpos5 _
  have hgr := cast_ne hg
  have hyr := cast_ne hy
  subst h1 h2 hn hd
  unfold ev
  simp only [Rat.intCast_mul, Rat.intCast_pow, Rat.intCast_ofNat]
  rw [← z2, ← z5]
  generalize (2 : Rat) ^ ((a : Int) - b) = A at *
  generalize (5 : Rat) ^ ((c : Int) - e) = C at *
  generalize (2 : Rat) ^ b = B at *
  generalize (5 : Rat) ^ e = E at *
  rcases hs with ⟨rfl, rfl⟩ | ⟨rfl, rfl⟩
  · grind
  · rw [Rat.intCast_neg, Rat.intCast_neg]; grind
theorem wrap_in {x : Int} (h : -9223372036854775808 ≤ x) (h2 : x ≤ 9223372036854775807) : wrap64 x = x := w64 h h2
theorem loosen_ev {num den : Int} (hn : num ≠ 0) (fn : Fit num) (hd : den ≠ 0) (fd : Fit den) : ∃ u d s t, Ev (fun k => frac_loosen.f k num den) (u, d, s, t) ∧ NF u d s t ∧ ev u d s t = (num : Rat) / den ∧ Fit u ∧ Fit d ∧ -63 ≤ s ∧ s ≤ 63 ∧ -63 ≤ t ∧ t ≤ 63 := by
  obtain ⟨a, u1, s1, e1, q1, ja, n1, f1⟩ := splitF_spec (b := 2) hn fn (by decide)
  obtain ⟨b, d1, s2, e2, q2, jb, n2, f2⟩ := splitF_spec (b := 2) hd fd (by decide)
  obtain ⟨c, u2, s3, e3, q3, jc, n3, f3⟩ := splitF_spec (b := 5) n1 f1 (by decide)
  obtain ⟨e, d2, s4, e4, q4, je, n4, f4⟩ := splitF_spec (b := 5) n2 f2 (by decide)
  obtain ⟨x, y, hgc, hg, hx, hy, hco, hgl⟩ := gcd_parts n3 f3 f4
  have p1 := Split_ev num 2 fn.i64
  have p2 := Split_ev den 2 fd.i64
  have p3 := Split_ev u1 5 f1.i64
  have p4 := Split_ev d1 5 f2.i64
  have p5 := Gcd_ev u2 d2 f3.i64 f4.i64
  rw [s1] at p1
  rw [s2] at p2
  rw [s3] at p3
  rw [s4] at p4
  generalize gcdF u2 d2 = g at *
  have c2 : Ct u2 := Ct.of (fun h => q1 (by rw [e3]; exact Int.dvd_mul_of_dvd_left h)) q3
  have c4 : Ct d2 := Ct.of (fun h => q2 (by rw [e4]; exact Int.dvd_mul_of_dvd_left h)) q4
  have cx : Ct x := c2.of_dvd ⟨g, by rw [Int.mul_comm]; exact hx⟩
  have cy : Ct y := c4.of_dvd ⟨g, by rw [Int.mul_comm]; exact hy⟩
  have fx : Fit x := fit_of_mul (g := g) (by omega) (hx ▸ f3)
  have fy : Fit y := fit_of_mul (g := g) (by omega) (hy ▸ f4)
  have eN : num = u2 * 5 ^ c * 2 ^ a := by rw [← e3, ← e1]
  have eD : den = d2 * 5 ^ e * 2 ^ b := by rw [← e4, ← e2]
  have b1 : wrap64 ((a : Int) - b) = (a : Int) - b := w64 (by omega) (by omega)
  have b2 : wrap64 ((c : Int) - e) = (c : Int) - e := w64 (by omega) (by omega)
  have fx' := fx
  have fy' := fy
  unfold Fit at fx' fy'
  by_cases neg : d2 < 0
  · have hy0 : y < 0 := by
      rcases Int.lt_or_le y 0 with z | z
      · exact z
      · have := Int.mul_nonneg (show 0 ≤ g by omega) z; rw [← hy] at this; omega
    refine ⟨-x, -y, (a : Int) - b, (c : Int) - e, ?_, ⟨cx.neg, cy.neg, by omega, by rw [Int.natAbs_neg, Int.natAbs_neg]; exact hco⟩, quot_ev eN eD hx hy (by omega) cy.ne (Or.inr ⟨rfl, rfl⟩), ?_, ?_, by omega, by omega, by omega, by omega⟩
    · refine Ev.congr (fun k => rfl) (p1.bind (p2.bind (p3.bind (p4.bind (p5.bind (Ev.congr (f := fun _ => some (-x, -y, (a : Int) - b, (c : Int) - e)) (fun k => ?_) (Ev.now _)))))))
      show (if d2 < 0 then _ else _) = _
      rw [if_pos neg, w64 (x := -g) (by omega) (by omega), if_neg (by omega)]
      have t1 : Int.tdiv u2 (-g) = -x := by rw [hx, Int.tdiv_neg, tdiv_mul (by omega)]
      have t2 : Int.tdiv d2 (-g) = -y := by rw [hy, Int.tdiv_neg, tdiv_mul (by omega)]
      rw [t1, t2, b1, b2, w64 (x := -x) (by omega) (by omega), w64 (x := -y) (by omega) (by omega)]
    · unfold Fit; omega
    · unfold Fit; omega
  · have hy0 : 0 < y := by
      rcases Int.lt_trichotomy y 0 with z | z | z
      · exfalso; have := Int.mul_neg_of_pos_of_neg hg z; rw [← hy] at this; omega
      · exact absurd z cy.ne
      · exact z
    refine ⟨x, y, (a : Int) - b, (c : Int) - e, ?_, ⟨cx, cy, hy0, hco⟩, quot_ev eN eD hx hy (by omega) cy.ne (Or.inl ⟨rfl, rfl⟩), fx, fy, by omega, by omega, by omega, by omega⟩
    refine Ev.congr (fun k => rfl) (p1.bind (p2.bind (p3.bind (p4.bind (p5.bind (Ev.congr (f := fun _ => some (x, y, (a : Int) - b, (c : Int) - e)) (fun k => ?_) (Ev.now _)))))))
    show (if d2 < 0 then _ else _) = _
    rw [if_neg neg, if_neg (by omega)]
    have t1 : Int.tdiv u2 g = x := by rw [hx, tdiv_mul (by omega)]
    have t2 : Int.tdiv d2 g = y := by rw [hy, tdiv_mul (by omega)]
    rw [t1, t2, b1, b2, w64 (x := x) (by omega) (by omega), w64 (x := y) (by omega) (by omega)]
theorem mulF_fit {a b : Int} (fa : Fit a) (fb : Fit b) (h : Fit (a * b)) : mulF a b = (a * b, true) := by unfold mulF; rw [if_pos ⟨fa.1, fb.1, h.1, h.2⟩]
theorem mulF_not {a b : Int} (h : ¬ Fit (a * b)) : mulF a b = (0, false) := by unfold mulF; rw [if_neg (fun c => h ⟨c.2.2.1, c.2.2.2⟩)]
theorem putN_ev (p : Int) (hp : p = 2 ∨ p = 5) : ∀ (d : Nat) (n : Int), n ≠ 0 → Fit n → ∃ r, Ev (fun k => putN k p d n true) r ∧ Fit r.1 ∧ (Fit (n * p ^ d) → r = (n * p ^ d, true)) ∧ (¬ Fit (n * p ^ d) → r.2 = false)
  | 0, n, h, hf => ⟨(n, true), Ev.now _, hf, fun _ => by simp, fun c => absurd (by simpa using hf) c⟩
  | d + 1, n, h, hf => by
    have fp : Fit p := by unfold Fit; omega
    have m := Mul_ev n p hf.i64 fp.i64
    have e : n * p ^ (d + 1) = n * p * p ^ d := by rw [Int.pow_succ]; grind
    by_cases hm : Fit (n * p)
    · rw [mulF_fit hf fp hm] at m
      obtain ⟨r, hr, h1, h2, h3⟩ := putN_ev p hp d (n * p) (Int.mul_ne_zero h (by omega)) hm
      refine ⟨r, ?_, h1, ?_, ?_⟩
      · exact Ev.congr (fun k => by unfold putN; rfl) (m.bind (Ev.congr (fun k => by rw [if_pos (by rfl)]) hr))
      · rw [e]; exact h2
      · rw [e]; exact h3
    · rw [mulF_not hm] at m
      refine ⟨(n, false), ?_, hf, ?_, fun _ => rfl⟩
      · exact Ev.congr (fun k => by unfold putN; rfl) (m.bind (Ev.congr (f := fun _ => some (n, false)) (fun k => by rw [if_neg (by decide)]) (Ev.now _)))
      · intro c
        exfalso
        refine hm ?_
        rw [e, fit_iff] at c
        rw [fit_iff]
        have := natAbs_le_mul (a := n * p) (b := p ^ d) (Int.pow_ne_zero (by omega))
        omega
theorem putN_false (p : Int) (hp : p = 2 ∨ p = 5) (d : Nat) (n : Int) (hf : Fit n) : Ev (fun k => putN k p d n false) (n, false) := by
  cases d with
  | zero => exact Ev.now _
  | succ d =>
    have fp : Fit p := by unfold Fit; omega
    exact Ev.congr (fun k => by unfold putN; rfl) ((Mul_ev n p hf.i64 fp.i64).bind (Ev.congr (f := fun _ => some (n, false)) (fun k => by rw [if_neg (by simp)]) (Ev.now _)))
theorem lw_mn (s t : Int) : mn s t = lw s t := rfl
theorem lw_ten (s t ten : Int) : lw (s + ten) (t + ten) = lw s t + ten := by unfold lw; by_cases h : t < s <;> simp [h]
theorem nm_ten (u s t ten : Int) : nm u (s + ten) (t + ten) = nm u s t := by
  unfold nm; rw [lw_ten, show s + ten - (lw s t + ten) = s - lw s t by omega, show t + ten - (lw s t + ten) = t - lw s t by omega]
theorem form_ev {u d s t ten : Int} (hu : u ≠ 0) (fu : Fit u) (fd : Fit d) (bs : -1000000 ≤ s ∧ s ≤ 1000000) (bt : -1000000 ≤ t ∧ t ≤ 1000000) (bn : -1000000 ≤ ten ∧ ten ≤ 1000000) :
    Ev (fun k => frac_loose_form.f k u d s t ten) (enc u d (s + ten) (t + ten)) := by
  have l1 : lw s t ≤ s := by unfold lw; split <;> omega
  have l2 : lw s t ≤ t := by unfold lw; split <;> omega
  have l3 : -1000000 ≤ lw s t := by unfold lw; split <;> omega
  have w1 : wrap64 (s - lw s t) = s - lw s t := w64 (by omega) (by omega)
  have w2 : wrap64 (t - lw s t) = t - lw s t := w64 (by omega) (by omega)
  have w3 : wrap64 (ten + lw s t) = lw s t + ten := by rw [w64 (by omega) (by omega)]; omega
  obtain ⟨⟨n1, o1⟩, p1, f1, h1, g1⟩ := putN_ev 2 (Or.inl rfl) (s - lw s t).toNat u hu fu
  have tail : ∀ n2 o2, Ev (fun k => putN k 5 (t - lw s t).toNat n1 o1) (n2, o2) → Ev (fun k => frac_loose_form.f k u d s t ten) (if o2 = true ∧ -1000 ≤ lw s t + ten ∧ lw s t + ten ≤ 1000 then (n2, d, lw s t + ten, 0) else (0, 0, 0, 10)) := by
    intro n2 o2 p2
    refine Ev.congr (f := fun k => (putN k 2 (s - lw s t).toNat u true).bind fun a => (putN k 5 (t - lw s t).toNat a.1 a.2).bind fun b => some (if b.2 = true ∧ -1000 ≤ lw s t + ten ∧ lw s t + ten ≤ 1000 then (b.1, d, lw s t + ten, 0) else (0, 0, 0, 10))) (fun k => ?_) (p1.bind (p2.bind (Ev.now _)))
    unfold frac_loose_form.f
    rw [lw_mn, w1, w2, w3]
  have en : enc u d (s + ten) (t + ten) = if Fit (nm u s t) ∧ -1000 ≤ lw s t + ten ∧ lw s t + ten ≤ 1000 then (nm u s t, d, lw s t + ten, 0) else (0, 0, 0, 10) := by
    unfold enc
    rw [nm_ten, lw_ten]
    by_cases c : Fit (nm u s t) ∧ -1000 ≤ lw s t + ten ∧ lw s t + ten ≤ 1000
    · rw [if_pos ⟨c.1, fd, c.2⟩, if_pos c]
    · rw [if_neg (fun h => c ⟨h.1, h.2.2⟩), if_neg c]
  rw [en]
  by_cases c1 : Fit (u * 2 ^ (s - lw s t).toNat)
  · have e1 := h1 c1
    simp only [Prod.mk.injEq] at e1
    obtain ⟨rfl, rfl⟩ := e1
    obtain ⟨⟨n2, o2⟩, p2, f2, h2, g2⟩ := putN_ev 5 (Or.inr rfl) (t - lw s t).toNat (u * 2 ^ (s - lw s t).toNat) (Int.mul_ne_zero hu (Int.pow_ne_zero (by decide))) c1
    have q := tail n2 o2 p2
    by_cases c2 : Fit (nm u s t)
    · have e2 := h2 c2
      simp only [Prod.mk.injEq] at e2
      obtain ⟨rfl, rfl⟩ := e2
      have : (Fit (nm u s t) ∧ -1000 ≤ lw s t + ten ∧ lw s t + ten ≤ 1000) ↔ (True ∧ -1000 ≤ lw s t + ten ∧ lw s t + ten ≤ 1000) := by simp [c2]
      simp only [this, true_and]
      simp only [true_and] at q
      exact q
    · have e2 : o2 = false := g2 c2
      subst e2
      rw [if_neg (fun h => c2 h.1)]
      rw [if_neg (fun h => by simp at h)] at q
      exact q
  · have e1 : o1 = false := g1 c1
    subst e1
    have q := tail _ _ (putN_false 5 (Or.inr rfl) (t - lw s t).toNat n1 f1)
    rw [if_neg (fun h => by simp at h)] at q
    have c2 : ¬ Fit (nm u s t) := fun c => c1 (by
      rw [fit_iff] at c ⊢
      have := natAbs_le_mul (a := u * 2 ^ (s - lw s t).toNat) (b := 5 ^ (t - lw s t).toNat) (Int.pow_ne_zero (by decide))
      unfold nm at c
      omega)
    rw [if_neg (fun h => c2 h.1)]
    exact q
end Go.Proofs.YtnndaackjgnhhaaDoor.Fr
