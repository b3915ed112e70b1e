/- Numbers as a form (u/d without twos and fives, and powers of two and five): each rational number has one form at most; products, inverses and powers of forms. Conditions stand in each theorem. -/
namespace Go.Proofs.YtnndaackjgnhhaaDoor.Fr
set_option linter.unusedVariables false

/-- coprime to ten -/
def Ct (x : Int) : Prop := Nat.Coprime x.natAbs 10
theorem Ct.mul {a b : Int} (ha : Ct a) (hb : Ct b) : Ct (a * b) := by unfold Ct; rw [Int.natAbs_mul]; exact Nat.Coprime.mul_left ha hb
theorem Ct.of_dvd {a b : Int} (hb : Ct b) (h : a ∣ b) : Ct a := Nat.Coprime.coprime_dvd_left (Int.natAbs_dvd_natAbs.2 h) hb
theorem Ct.neg {a : Int} (h : Ct a) : Ct (-a) := by unfold Ct; rw [Int.natAbs_neg]; exact h
theorem Ct.one : Ct 1 := by unfold Ct; decide
theorem Ct.pow {a : Int} (h : Ct a) (n : Nat) : Ct (a ^ n) := by unfold Ct; rw [Int.natAbs_pow]; exact Nat.Coprime.pow_left n h
theorem Ct.two {a : Int} (h : Ct a) : ¬ (2 ∣ a) := fun h2 => by
  have : Nat.Coprime (2 : Int).natAbs 10 := Ct.of_dvd h h2
  revert this; decide
theorem Ct.five {a : Int} (h : Ct a) : ¬ (5 ∣ a) := fun h2 => by
  have : Nat.Coprime (5 : Int).natAbs 10 := Ct.of_dvd h h2
  revert this; decide
theorem Ct.of {a : Int} (h2 : ¬ (2 ∣ a)) (h5 : ¬ (5 ∣ a)) : Ct a := by
  unfold Ct
  have key : ∀ r : Nat, r < 10 → r % 2 ≠ 0 → r % 5 ≠ 0 → Nat.gcd r 10 = 1 := by decide
  show Nat.gcd a.natAbs 10 = 1
  rw [Nat.gcd_comm, Nat.gcd_rec]
  exact key _ (Nat.mod_lt _ (by decide)) (by omega) (by omega)
theorem two_of_mul {a b : Int} (h : 2 ∣ a * b) : 2 ∣ a ∨ 2 ∣ b := by
  have h' : (a * b) % 2 = 0 := by omega
  rw [Int.mul_emod] at h'
  rcases Int.emod_two_eq a with e | e <;> rcases Int.emod_two_eq b with f | f <;> simp [e, f] at h' <;> omega
theorem Ct.ne {a : Int} (h : Ct a) : a ≠ 0 := fun e => h.two (e ▸ ⟨0, rfl⟩)

/-- u/d * 2^s * 5^t is in form -/
structure NF (u d s t : Int) : Prop where
  hu : Ct u
  hd : Ct d
  pos : 0 < d
  co : Nat.Coprime u.natAbs d.natAbs
def ev (u d s t : Int) : Rat := (u : Rat) / (d : Rat) * (2 : Rat) ^ s * (5 : Rat) ^ t

theorem ne_of_pow {a : Int} (h : Ct a) {p : Nat} (hp : 0 < p) (x y : Int) (r : Nat) (e : a * 5 ^ r = x * 2 ^ p * y) : False := by
  have : (2 : Int) ∣ a * 5 ^ r := by
    rw [e]
    obtain ⟨q, rfl⟩ : ∃ q, p = q + 1 := ⟨p - 1, by omega⟩
    exact ⟨x * 2 ^ q * y, by rw [Int.pow_succ]; grind⟩
  have h5 : Nat.Coprime 2 ((5 : Int) ^ r).natAbs := by
    rw [Int.natAbs_pow]
    exact Nat.Coprime.pow_right r (by decide)
  have h2 : (2 : Nat) ∣ a.natAbs * ((5 : Int) ^ r).natAbs := by
    rw [← Int.natAbs_mul]; exact Int.natAbs_dvd_natAbs.2 this
  exact h.two (by have := Nat.Coprime.dvd_of_dvd_mul_right h5 h2; omega)
theorem ne_of_pow5 {a : Int} (h : Ct a) {p : Nat} (hp : 0 < p) (y : Int) (e : a = 5 ^ p * y) : False := by
  refine h.five ?_
  rw [e]
  obtain ⟨q, rfl⟩ : ∃ q, p = q + 1 := ⟨p - 1, by omega⟩
  exact ⟨5 ^ q * y, by rw [Int.pow_succ]; grind⟩

theorem pow_split (x : Rat) (hx : x ≠ 0) (s s' : Int) : x ^ s * x ^ (s' - s).toNat = x ^ s' * x ^ (s - s').toNat := by
  rw [← Rat.zpow_natCast, ← Rat.zpow_natCast, ← Rat.zpow_add hx, ← Rat.zpow_add hx]
  congr 1; omega
theorem cross {u d s t u' d' s' t' : Int} (hd : d ≠ 0) (hd' : d' ≠ 0) (e : ev u d s t = ev u' d' s' t') :
    u * d' * 2 ^ (s - s').toNat * 5 ^ (t - t').toNat = u' * d * 2 ^ (s' - s).toNat * 5 ^ (t' - t).toNat := by
  rw [← Rat.intCast_inj]
  have a2 := pow_split 2 (by decide) s s'
  have a5 := pow_split 5 (by decide) t t'
  have h2 : (2 : Rat) ^ s' ≠ 0 := fun h => by have := Rat.zpow_pos (n := s') (show (0 : Rat) < 2 by decide); rw [h] at this; exact absurd this (by decide)
  have h5 : (5 : Rat) ^ t' ≠ 0 := fun h => by have := Rat.zpow_pos (n := t') (show (0 : Rat) < 5 by decide); rw [h] at this; exact absurd this (by decide)
  have h2s : (2 : Rat) ^ s ≠ 0 := fun h => by have := Rat.zpow_pos (n := s) (show (0 : Rat) < 2 by decide); rw [h] at this; exact absurd this (by decide)
  have h5s : (5 : Rat) ^ t ≠ 0 := fun h => by have := Rat.zpow_pos (n := t) (show (0 : Rat) < 5 by decide); rw [h] at this; exact absurd this (by decide)
  have hdr : (d : Rat) ≠ 0 := fun h => hd (Rat.intCast_eq_zero_iff.1 h)
  have hdr' : (d' : Rat) ≠ 0 := fun h => hd' (Rat.intCast_eq_zero_iff.1 h)
  simp only [Rat.intCast_mul, Rat.intCast_pow, Rat.intCast_ofNat]
  unfold ev at e
  generalize (2 : Rat) ^ s = A at *
  generalize (2 : Rat) ^ s' = A' at *
  generalize (5 : Rat) ^ t = B at *
  generalize (5 : Rat) ^ t' = B' at *
  generalize (2 : Rat) ^ (s - s').toNat = p at *
  generalize (2 : Rat) ^ (s' - s).toNat = p' at *
  generalize (5 : Rat) ^ (t - t').toNat = q at *
  generalize (5 : Rat) ^ (t' - t).toNat = q' at *
  have e1 : (u : Rat) * d' * A * B = u' * d * A' * B' := by
    have : (u : Rat) / d * A * B * (d * d') = u' / d' * A' * B' * (d * d') := by rw [e]
    grind
  have e2 : (u : Rat) * d' * p * q * (A' * B') = u' * d * p' * q' * (A' * B') := by grind
  grind
theorem nf_unique {u d s t u' d' s' t' : Int} (h : NF u d s t) (h' : NF u' d' s' t') (e : ev u d s t = ev u' d' s' t') : u = u' ∧ d = d' ∧ s = s' ∧ t = t' := by
  have c := cross h.hd.ne h'.hd.ne e
  have hs : s = s' := by
    rcases Int.lt_trichotomy s s' with g | g | g
    · exfalso
      refine ne_of_pow (h.hu.mul h'.hd) (p := (s' - s).toNat) (by omega) (u' * d) (5 ^ (t' - t).toNat) (t - t').toNat ?_
      rw [show (s - s').toNat = 0 from by omega, Int.pow_zero, Int.mul_one] at c
      exact c
    · exact g
    · exfalso
      refine ne_of_pow (h'.hu.mul h.hd) (p := (s - s').toNat) (by omega) (u * d') (5 ^ (t - t').toNat) (t' - t).toNat ?_
      rw [show (s' - s).toNat = 0 from by omega, Int.pow_zero, Int.mul_one] at c
      exact c.symm
  subst hs
  rw [Int.sub_self, Int.toNat_zero, Int.pow_zero, Int.mul_one, Int.mul_one] at c
  have ht : t = t' := by
    rcases Int.lt_trichotomy t t' with g | g | g
    · exfalso
      refine ne_of_pow5 (h.hu.mul h'.hd) (p := (t' - t).toNat) (by omega) (u' * d) ?_
      rw [show (t - t').toNat = 0 from by omega, Int.pow_zero, Int.mul_one] at c
      rw [c, Int.mul_comm]
    · exact g
    · exfalso
      refine ne_of_pow5 (h'.hu.mul h.hd) (p := (t - t').toNat) (by omega) (u * d') ?_
      rw [show (t' - t).toNat = 0 from by omega, Int.pow_zero, Int.mul_one] at c
      rw [← c, Int.mul_comm]
  subst ht
  rw [Int.sub_self, Int.toNat_zero, Int.pow_zero, Int.mul_one, Int.mul_one] at c
  have n1 : d.natAbs ∣ d'.natAbs := by
    refine Nat.Coprime.dvd_of_dvd_mul_left h.co.symm ?_
    rw [← Int.natAbs_mul, c]
    exact Int.natAbs_dvd_natAbs.2 ⟨u', by rw [Int.mul_comm]⟩
  have n2 : d'.natAbs ∣ d.natAbs := by
    refine Nat.Coprime.dvd_of_dvd_mul_left h'.co.symm ?_
    rw [← Int.natAbs_mul, ← c]
    exact Int.natAbs_dvd_natAbs.2 ⟨u, by rw [Int.mul_comm]⟩
  have n3 := Nat.dvd_antisymm n1 n2
  have p1 := h.pos
  have p2 := h'.pos
  have n4 : d = d' := by omega
  subst n4
  exact ⟨Int.eq_of_mul_eq_mul_right (by omega) c, rfl, rfl, rfl⟩

theorem r2 : (2 : Rat) ≠ 0 := by decide
theorem r5 : (5 : Rat) ≠ 0 := by decide
theorem zpos2 (s : Int) : (2 : Rat) ^ s ≠ 0 := fun h => by have := Rat.zpow_pos (n := s) (show (0 : Rat) < 2 by decide); rw [h] at this; exact absurd this (by decide)
theorem zpos5 (s : Int) : (5 : Rat) ^ s ≠ 0 := fun h => by have := Rat.zpow_pos (n := s) (show (0 : Rat) < 5 by decide); rw [h] at this; exact absurd this (by decide)
theorem cast_ne {d : Int} (h : d ≠ 0) : (d : Rat) ≠ 0 := fun e => h (Rat.intCast_eq_zero_iff.1 e)
theorem ev_ne {u d s t : Int} (h : NF u d s t) : ev u d s t ≠ 0 := by
  unfold ev
  have a := zpos2 s
  have b := zpos5 t
  have c := cast_ne h.hu.ne
  have e := cast_ne h.hd.ne
  grind
/-- the product of two forms, by their common divisors -/
theorem nf_mul {u d s t u' d' s' t' g h : Int} (x : NF u d s t) (y : NF u' d' s' t') (u1 d1 u1' d1' : Int) (hg : 0 < g) (hh : 0 < h) (eu : u = g * u1) (ed' : d' = g * d1') (eu' : u' = h * u1') (ed : d = h * d1)
    (c1 : Nat.Coprime u1.natAbs d1'.natAbs) (c2 : Nat.Coprime u1'.natAbs d1.natAbs) : NF (u1 * u1') (d1 * d1') (s + s') (t + t') ∧ ev (u1 * u1') (d1 * d1') (s + s') (t + t') = ev u d s t * ev u' d' s' t' := by
  have q1 : Ct u1 := x.hu.of_dvd ⟨g, by rw [eu, Int.mul_comm]⟩
  have q2 : Ct u1' := y.hu.of_dvd ⟨h, by rw [eu', Int.mul_comm]⟩
  have q3 : Ct d1 := x.hd.of_dvd ⟨h, by rw [ed, Int.mul_comm]⟩
  have q4 : Ct d1' := y.hd.of_dvd ⟨g, by rw [ed', Int.mul_comm]⟩
  have p1 : 0 < d1 := by have := x.pos; rw [ed, Int.mul_comm] at this; exact Int.pos_of_mul_pos_left this hh
  have p2 : 0 < d1' := by have := y.pos; rw [ed', Int.mul_comm] at this; exact Int.pos_of_mul_pos_left this hg
  have k1 : Nat.Coprime u1.natAbs d1.natAbs := by
    have := x.co; rw [eu, ed, Int.natAbs_mul, Int.natAbs_mul] at this
    exact (this.coprime_mul_left).coprime_mul_left_right
  have k2 : Nat.Coprime u1'.natAbs d1'.natAbs := by
    have := y.co; rw [eu', ed', Int.natAbs_mul, Int.natAbs_mul] at this
    exact (this.coprime_mul_left).coprime_mul_left_right
  refine ⟨⟨q1.mul q2, q3.mul q4, Int.mul_pos p1 p2, ?_⟩, ?_⟩
  · rw [Int.natAbs_mul, Int.natAbs_mul]
    exact Nat.Coprime.mul_left (Nat.Coprime.mul_right k1 c1) (Nat.Coprime.mul_right c2 k2)
  · unfold ev
    rw [Rat.zpow_add r2, Rat.zpow_add r5, eu, ed, eu', ed']
    simp only [Rat.intCast_mul]
    have z1 := cast_ne (show g ≠ 0 by omega)
    have z2 := cast_ne (show h ≠ 0 by omega)
    have z3 := cast_ne q3.ne
    have z4 := cast_ne q4.ne
    grind
theorem nf_inv {u d s t : Int} (x : NF u d s t) (u' d' : Int) (e : u' = d ∧ d' = u ∧ 0 < u ∨ u' = -d ∧ d' = -u ∧ u < 0) : NF u' d' (-s) (-t) ∧ ev u' d' (-s) (-t) = (ev u d s t)⁻¹ := by
  have z1 := cast_ne x.hu.ne
  have z2 := cast_ne x.hd.ne
  have z3 := zpos2 s
  have z4 := zpos5 t
  rcases e with ⟨rfl, rfl, h⟩ | ⟨rfl, rfl, h⟩
  · refine ⟨⟨x.hd, x.hu, h, x.co.symm⟩, ?_⟩
    unfold ev
    rw [Rat.zpow_neg, Rat.zpow_neg]
    grind
  · refine ⟨⟨x.hd.neg, x.hu.neg, by omega, by rw [Int.natAbs_neg, Int.natAbs_neg]; exact x.co.symm⟩, ?_⟩
    unfold ev
    rw [Rat.zpow_neg, Rat.zpow_neg, Rat.intCast_neg, Rat.intCast_neg]
    grind
theorem nf_pow {u d s t : Int} (x : NF u d s t) (n : Nat) : NF (u ^ n) (d ^ n) (s * n) (t * n) ∧ ev (u ^ n) (d ^ n) (s * n) (t * n) = ev u d s t ^ n := by
  induction n with
  | zero =>
    rw [Int.pow_zero, Int.pow_zero, Rat.pow_zero, show s * ((0 : Nat) : Int) = 0 from by simp, show t * ((0 : Nat) : Int) = 0 from by simp]
    refine ⟨⟨Ct.one, Ct.one, by decide, by decide⟩, ?_⟩
    unfold ev
    rw [Rat.zpow_zero, Rat.zpow_zero, Rat.intCast_one]
    grind
  | succ n ih =>
    have h := nf_mul ih.1 x (u ^ n) (d ^ n) u d (g := 1) (h := 1) (by decide) (by decide) (by omega) (by omega) (by omega) (by omega)
      (by rw [Int.natAbs_pow]; exact Nat.Coprime.pow_left n x.co) (by rw [Int.natAbs_pow]; exact Nat.Coprime.pow_right n x.co)
    rw [Int.pow_succ, Int.pow_succ, show s * ((n + 1 : Nat) : Int) = s * n + s from by rw [Int.natCast_add]; grind, show t * ((n + 1 : Nat) : Int) = t * n + t from by rw [Int.natCast_add]; grind]
    exact ⟨h.1, by rw [h.2, ih.2, Rat.pow_succ]⟩
theorem ev_ten (u d s t ten : Int) : ev u d (s + ten) (t + ten) = ev u d s t * (10 : Rat) ^ ten := by
  have h : (10 : Rat) ^ ten = (2 : Rat) ^ ten * (5 : Rat) ^ ten := by
    have hn : ∀ n : Nat, (10 : Rat) ^ n = (2 : Rat) ^ n * (5 : Rat) ^ n := fun n => by
      induction n with
      | zero => simp
      | succ n ih => rw [Rat.pow_succ, Rat.pow_succ, Rat.pow_succ, ih]; grind
    rcases Int.le_total 0 ten with g | g
    · obtain ⟨n, rfl⟩ := Int.eq_ofNat_of_zero_le g
      simp only [Rat.zpow_natCast]; exact hn n
    · obtain ⟨n, hn'⟩ := Int.eq_ofNat_of_zero_le (show 0 ≤ -ten by omega)
      obtain rfl : ten = -(n : Int) := by omega
      rw [Rat.zpow_neg, Rat.zpow_neg, Rat.zpow_neg]
      simp only [Rat.zpow_natCast]
      rw [hn n, Rat.inv_mul_rev, Rat.mul_comm]
  unfold ev
  rw [Rat.zpow_add r2, Rat.zpow_add r5, h]
  grind
theorem nf_shift {u d s t : Int} (x : NF u d s t) (s' t' : Int) : NF u d s' t' := ⟨x.hu, x.hd, x.pos, x.co⟩
end Go.Proofs.YtnndaackjgnhhaaDoor.Fr
