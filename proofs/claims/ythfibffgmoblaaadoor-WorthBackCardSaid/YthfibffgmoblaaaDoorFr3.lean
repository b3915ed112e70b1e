/- Numbers as a form (u/d without twos and fives, and powers of two and five): each rational number has one form at most; products, inverses and powers of forms. Conditions stand in each theorem. -/
import Derived.Test.YthfibffgmoblaaaDoorPBx
import Derived.Laws.BitsAllLaws
import Derived.Test.YthfibffgmoblaaaDoorPCx
import Derived.Test.YthfibffgmoblaaaDoorH2
namespace Go.Proofs.YthfibffgmoblaaaDoor.Fr
set_option linter.unusedVariables false

/-- coprime to ten -/
def Ct (x : Int) : Prop := Nat.Coprime x.natAbs 10
theorem Ct.mul {a b : Int} (ha : Ct a) (hb : Ct b) : Ct (a * b) := by unfold Ct; rw [Int.natAbs_mul]; exact Nat.Coprime.mul_left ha hb
theorem Ct.of_dvd {a b : Int} (hb : Ct b) (h : a ∣ b) : Ct a := Nat.Coprime.coprime_dvd_left (Int.natAbs_dvd_natAbs.2 h) hb
theorem Ct.neg {a : Int} (h : Ct a) : Ct (-a) := by unfold Ct; rw [Int.natAbs_neg]; exact h
theorem Ct.one : Ct 1 := by unfold Ct; decide
theorem Ct.pow {a : Int} (h : Ct a) (n : Nat) : Ct (a ^ n) := by unfold Ct; rw [Int.natAbs_pow]; exact Nat.Coprime.pow_left n h
theorem Ct.two {a : Int} (h : Ct a) : ¬ (2 ∣ a) := fun h2 => by
  have : Nat.Coprime (2 : Int).natAbs 10 := Ct.of_dvd h h2
  revert this; decide
theorem Ct.five {a : Int} (h : Ct a) : ¬ (5 ∣ a) := fun h2 => by
  have : Nat.Coprime (5 : Int).natAbs 10 := Ct.of_dvd h h2
  revert this; decide
theorem Ct.of {a : Int} (h2 : ¬ (2 ∣ a)) (h5 : ¬ (5 ∣ a)) : Ct a := by
  unfold Ct
  have key : ∀ r : Nat, r < 10 → r % 2 ≠ 0 → r % 5 ≠ 0 → Nat.gcd r 10 = 1 := by decide
  show Nat.gcd a.natAbs 10 = 1
  rw [Nat.gcd_comm, Nat.gcd_rec]
  exact key _ (Nat.mod_lt _ (by decide)) (by omega) (by omega)
theorem two_of_mul {a b : Int} (h : 2 ∣ a * b) : 2 ∣ a ∨ 2 ∣ b := by
  have h' : (a * b) % 2 = 0 := by omega
  rw [Int.mul_emod] at h'
  rcases Int.emod_two_eq a with e | e <;> rcases Int.emod_two_eq b with f | f <;> simp [e, f] at h' <;> omega
theorem Ct.ne {a : Int} (h : Ct a) : a ≠ 0 := fun e => h.two (e ▸ ⟨0, rfl⟩)

/-- u/d * 2^s * 5^t is in form -/
structure NF (u d s t : Int) : Prop where
  hu : Ct u
  hd : Ct d
  pos : 0 < d
  co : Nat.Coprime u.natAbs d.natAbs
def ev (u d s t : Int) : Rat := (u : Rat) / (d : Rat) * (2 : Rat) ^ s * (5 : Rat) ^ t

theorem ne_of_pow {a : Int} (h : Ct a) {p : Nat} (hp : 0 < p) (x y : Int) (r : Nat) (e : a * 5 ^ r = x * 2 ^ p * y) : False := by
  have : (2 : Int) ∣ a * 5 ^ r := by
    rw [e]
    obtain ⟨q, rfl⟩ : ∃ q, p = q + 1 := ⟨p - 1, by omega⟩
    exact ⟨x * 2 ^ q * y, by rw [Int.pow_succ]; grind⟩
  have h5 : Nat.Coprime 2 ((5 : Int) ^ r).natAbs := by
    rw [Int.natAbs_pow]
    exact Nat.Coprime.pow_right r (by decide)
  have h2 : (2 : Nat) ∣ a.natAbs * ((5 : Int) ^ r).natAbs := by
    rw [← Int.natAbs_mul]; exact Int.natAbs_dvd_natAbs.2 this
  exact h.two (by have := Nat.Coprime.dvd_of_dvd_mul_right h5 h2; omega)
theorem ne_of_pow5 {a : Int} (h : Ct a) {p : Nat} (hp : 0 < p) (y : Int) (e : a = 5 ^ p * y) : False := by
  refine h.five ?_
  rw [e]
  obtain ⟨q, rfl⟩ : ∃ q, p = q + 1 := ⟨p - 1, by omega⟩
  exact ⟨5 ^ q * y, by rw [Int.pow_succ]; grind⟩

theorem pow_split (x : Rat) (hx : x ≠ 0) (s s' : Int) : x ^ s * x ^ (s' - s).toNat = x ^ s' * x ^ (s - s').toNat := by
  rw [← Rat.zpow_natCast, ← Rat.zpow_natCast, ← Rat.zpow_add hx, ← Rat.zpow_add hx]
  congr 1; omega
theorem cross {u d s t u' d' s' t' : Int} (hd : d ≠ 0) (hd' : d' ≠ 0) (e : ev u d s t = ev u' d' s' t') :
    u * d' * 2 ^ (s - s').toNat * 5 ^ (t - t').toNat = u' * d * 2 ^ (s' - s).toNat * 5 ^ (t' - t).toNat := by
  rw [← Rat.intCast_inj]
  have a2 := pow_split 2 (by decide) s s'
  have a5 := pow_split 5 (by decide) t t'
  have h2 : (2 : Rat) ^ s' ≠ 0 := fun h => by have := Rat.zpow_pos (n := s') (show (0 : Rat) < 2 by decide); rw [h] at this; exact absurd this (by decide)
  have h5 : (5 : Rat) ^ t' ≠ 0 := fun h => by have := Rat.zpow_pos (n := t') (show (0 : Rat) < 5 by decide); rw [h] at this; exact absurd this (by decide)
  have h2s : (2 : Rat) ^ s ≠ 0 := fun h => by have := Rat.zpow_pos (n := s) (show (0 : Rat) < 2 by decide); rw [h] at this; exact absurd this (by decide)
  have h5s : (5 : Rat) ^ t ≠ 0 := fun h => by have := Rat.zpow_pos (n := t) (show (0 : Rat) < 5 by decide); rw [h] at this; exact absurd this (by decide)
  have hdr : (d : Rat) ≠ 0 := fun h => hd (Rat.intCast_eq_zero_iff.1 h)
  have hdr' : (d' : Rat) ≠ 0 := fun h => hd' (Rat.intCast_eq_zero_iff.1 h)
  simp only [Rat.intCast_mul, Rat.intCast_pow, Rat.intCast_ofNat]
  unfold ev at e
  generalize (2 : Rat) ^ s = A at *
  generalize (2 : Rat) ^ s' = A' at *
  generalize (5 : Rat) ^ t = B at *
  generalize (5 : Rat) ^ t' = B' at *
  generalize (2 : Rat) ^ (s - s').toNat = p at *
  generalize (2 : Rat) ^ (s' - s).toNat = p' at *
  generalize (5 : Rat) ^ (t - t').toNat = q at *
  generalize (5 : Rat) ^ (t' - t).toNat = q' at *
  have e1 : (u : Rat) * d' * A * B = u' * d * A' * B' := by
    have : (u : Rat) / d * A * B * (d * d') = u' / d' * A' * B' * (d * d') := by rw [e]
    grind
  have e2 : (u : Rat) * d' * p * q * (A' * B') = u' * d * p' * q' * (A' * B') := by grind
  grind
theorem nf_unique {u d s t u' d' s' t' : Int} (h : NF u d s t) (h' : NF u' d' s' t') (e : ev u d s t = ev u' d' s' t') : u = u' ∧ d = d' ∧ s = s' ∧ t = t' := by
  have c := cross h.hd.ne h'.hd.ne e
  have hs : s = s' := by
    rcases Int.lt_trichotomy s s' with g | g | g
    · exfalso
      refine ne_of_pow (h.hu.mul h'.hd) (p := (s' - s).toNat) (by omega) (u' * d) (5 ^ (t' - t).toNat) (t - t').toNat ?_
      rw [show (s - s').toNat = 0 from by omega, Int.pow_zero, Int.mul_one] at c
      exact c
    · exact g
    · exfalso
      refine ne_of_pow (h'.hu.mul h.hd) (p := (s - s').toNat) (by omega) (u * d') (5 ^ (t - t').toNat) (t' - t).toNat ?_
      rw [show (s' - s).toNat = 0 from by omega, Int.pow_zero, Int.mul_one] at c
      exact c.symm
  subst hs
  rw [Int.sub_self, Int.toNat_zero, Int.pow_zero, Int.mul_one, Int.mul_one] at c
  have ht : t = t' := by
    rcases Int.lt_trichotomy t t' with g | g | g
    · exfalso
      refine ne_of_pow5 (h.hu.mul h'.hd) (p := (t' - t).toNat) (by omega) (u' * d) ?_
      rw [show (t - t').toNat = 0 from by omega, Int.pow_zero, Int.mul_one] at c
      rw [c, Int.mul_comm]
    · exact g
    · exfalso
      refine ne_of_pow5 (h'.hu.mul h.hd) (p := (t - t').toNat) (by omega) (u * d') ?_
      rw [show (t' - t).toNat = 0 from by omega, Int.pow_zero, Int.mul_one] at c
      rw [← c, Int.mul_comm]
  subst ht
  rw [Int.sub_self, Int.toNat_zero, Int.pow_zero, Int.mul_one, Int.mul_one] at c
  have n1 : d.natAbs ∣ d'.natAbs := by
    refine Nat.Coprime.dvd_of_dvd_mul_left h.co.symm ?_
    rw [← Int.natAbs_mul, c]
    exact Int.natAbs_dvd_natAbs.2 ⟨u', by rw [Int.mul_comm]⟩
  have n2 : d'.natAbs ∣ d.natAbs := by
    refine Nat.Coprime.dvd_of_dvd_mul_left h'.co.symm ?_
    rw [← Int.natAbs_mul, ← c]
    exact Int.natAbs_dvd_natAbs.2 ⟨u, by rw [Int.mul_comm]⟩
  have n3 := Nat.dvd_antisymm n1 n2
  have p1 := h.pos
  have p2 := h'.pos
  have n4 : d = d' := by omega
  subst n4
  exact ⟨Int.eq_of_mul_eq_mul_right (by omega) c, rfl, rfl, rfl⟩

theorem r2 : (2 : Rat) ≠ 0 := by decide
theorem r5 : (5 : Rat) ≠ 0 := by decide
theorem zpos2 (s : Int) : (2 : Rat) ^ s ≠ 0 := fun h => by have := Rat.zpow_pos (n := s) (show (0 : Rat) < 2 by decide); rw [h] at this; exact absurd this (by decide)
theorem zpos5 (s : Int) : (5 : Rat) ^ s ≠ 0 := fun h => by have := Rat.zpow_pos (n := s) (show (0 : Rat) < 5 by decide); rw [h] at this; exact absurd this (by decide)
theorem cast_ne {d : Int} (h : d ≠ 0) : (d : Rat) ≠ 0 := fun e => h (Rat.intCast_eq_zero_iff.1 e)
theorem ev_ne {u d s t : Int} (h : NF u d s t) : ev u d s t ≠ 0 := by
  unfold ev
  have a := zpos2 s
  have b := zpos5 t
  have c := cast_ne h.hu.ne
  have e := cast_ne h.hd.ne
  grind
/-- the product of two forms, by their common divisors -/
theorem nf_mul {u d s t u' d' s' t' g h : Int} (x : NF u d s t) (y : NF u' d' s' t') (u1 d1 u1' d1' : Int) (hg : 0 < g) (hh : 0 < h) (eu : u = g * u1) (ed' : d' = g * d1') (eu' : u' = h * u1') (ed : d = h * d1)
    (c1 : Nat.Coprime u1.natAbs d1'.natAbs) (c2 : Nat.Coprime u1'.natAbs d1.natAbs) : NF (u1 * u1') (d1 * d1') (s + s') (t + t') ∧ ev (u1 * u1') (d1 * d1') (s + s') (t + t') = ev u d s t * ev u' d' s' t' := by
  have q1 : Ct u1 := x.hu.of_dvd ⟨g, by rw [eu, Int.mul_comm]⟩
  have q2 : Ct u1' := y.hu.of_dvd ⟨h, by rw [eu', Int.mul_comm]⟩
  have q3 : Ct d1 := x.hd.of_dvd ⟨h, by rw [ed, Int.mul_comm]⟩
  have q4 : Ct d1' := y.hd.of_dvd ⟨g, by rw [ed', Int.mul_comm]⟩
  have p1 : 0 < d1 := by have := x.pos; rw [ed, Int.mul_comm] at this; exact Int.pos_of_mul_pos_left this hh
  have p2 : 0 < d1' := by have := y.pos; rw [ed', Int.mul_comm] at this; exact Int.pos_of_mul_pos_left this hg
  have k1 : Nat.Coprime u1.natAbs d1.natAbs := by
    have := x.co; rw [eu, ed, Int.natAbs_mul, Int.natAbs_mul] at this
    exact (this.coprime_mul_left).coprime_mul_left_right
  have k2 : Nat.Coprime u1'.natAbs d1'.natAbs := by
    have := y.co; rw [eu', ed', Int.natAbs_mul, Int.natAbs_mul] at this
    exact (this.coprime_mul_left).coprime_mul_left_right
  refine ⟨⟨q1.mul q2, q3.mul q4, Int.mul_pos p1 p2, ?_⟩, ?_⟩
  · rw [Int.natAbs_mul, Int.natAbs_mul]
    exact Nat.Coprime.mul_left (Nat.Coprime.mul_right k1 c1) (Nat.Coprime.mul_right c2 k2)
  · unfold ev
    rw [Rat.zpow_add r2, Rat.zpow_add r5, eu, ed, eu', ed']
    simp only [Rat.intCast_mul]
    have z1 := cast_ne (show g ≠ 0 by omega)
    have z2 := cast_ne (show h ≠ 0 by omega)
    have z3 := cast_ne q3.ne
    have z4 := cast_ne q4.ne
    grind
theorem nf_inv {u d s t : Int} (x : NF u d s t) (u' d' : Int) (e : u' = d ∧ d' = u ∧ 0 < u ∨ u' = -d ∧ d' = -u ∧ u < 0) : NF u' d' (-s) (-t) ∧ ev u' d' (-s) (-t) = (ev u d s t)⁻¹ := by
  have z1 := cast_ne x.hu.ne
  have z2 := cast_ne x.hd.ne
  have z3 := zpos2 s
  have z4 := zpos5 t
  rcases e with ⟨rfl, rfl, h⟩ | ⟨rfl, rfl, h⟩
  · refine ⟨⟨x.hd, x.hu, h, x.co.symm⟩, ?_⟩
    unfold ev
    rw [Rat.zpow_neg, Rat.zpow_neg]
    grind
  · refine ⟨⟨x.hd.neg, x.hu.neg, by omega, by rw [Int.natAbs_neg, Int.natAbs_neg]; exact x.co.symm⟩, ?_⟩
    unfold ev
    rw [Rat.zpow_neg, Rat.zpow_neg, Rat.intCast_neg, Rat.intCast_neg]
    grind
theorem nf_pow {u d s t : Int} (x : NF u d s t) (n : Nat) : NF (u ^ n) (d ^ n) (s * n) (t * n) ∧ ev (u ^ n) (d ^ n) (s * n) (t * n) = ev u d s t ^ n := by
  induction n with
  | zero =>
    rw [Int.pow_zero, Int.pow_zero, Rat.pow_zero, show s * ((0 : Nat) : Int) = 0 from by simp, show t * ((0 : Nat) : Int) = 0 from by simp]
    refine ⟨⟨Ct.one, Ct.one, by decide, by decide⟩, ?_⟩
    unfold ev
    rw [Rat.zpow_zero, Rat.zpow_zero, Rat.intCast_one]
    grind
  | succ n ih =>
    have h := nf_mul ih.1 x (u ^ n) (d ^ n) u d (g := 1) (h := 1) (by decide) (by decide) (by omega) (by omega) (by omega) (by omega)
      (by rw [Int.natAbs_pow]; exact Nat.Coprime.pow_left n x.co) (by rw [Int.natAbs_pow]; exact Nat.Coprime.pow_right n x.co)
    rw [Int.pow_succ, Int.pow_succ, show s * ((n + 1 : Nat) : Int) = s * n + s from by rw [Int.natCast_add]; grind, show t * ((n + 1 : Nat) : Int) = t * n + t from by rw [Int.natCast_add]; grind]
    exact ⟨h.1, by rw [h.2, ih.2, Rat.pow_succ]⟩
theorem ev_ten (u d s t ten : Int) : ev u d (s + ten) (t + ten) = ev u d s t * (10 : Rat) ^ ten := by
  have h : (10 : Rat) ^ ten = (2 : Rat) ^ ten * (5 : Rat) ^ ten := by
    have hn : ∀ n : Nat, (10 : Rat) ^ n = (2 : Rat) ^ n * (5 : Rat) ^ n := fun n => by
      induction n with
      | zero => simp
      | succ n ih => rw [Rat.pow_succ, Rat.pow_succ, Rat.pow_succ, ih]; grind
    rcases Int.le_total 0 ten with g | g
    · obtain ⟨n, rfl⟩ := Int.eq_ofNat_of_zero_le g
      simp only [Rat.zpow_natCast]; exact hn n
    · obtain ⟨n, hn'⟩ := Int.eq_ofNat_of_zero_le (show 0 ≤ -ten by omega)
      obtain rfl : ten = -(n : Int) := by omega
      rw [Rat.zpow_neg, Rat.zpow_neg, Rat.zpow_neg]
      simp only [Rat.zpow_natCast]
      rw [hn n, Rat.inv_mul_rev, Rat.mul_comm]
  unfold ev
  rw [Rat.zpow_add r2, Rat.zpow_add r5, h]
  grind
theorem nf_shift {u d s t : Int} (x : NF u d s t) (s' t' : Int) : NF u d s' t' := ⟨x.hu, x.hd, x.pos, x.co⟩
end Go.Proofs.YthfibffgmoblaaaDoor.Fr
namespace Go.Proofs.YthfibffgmoblaaaDoor.Fr
set_option linter.unusedVariables false
def lw (s t : Int) : Int := if t < s then t else s
def Fit (x : Int) : Prop := -9223372036854775807 ≤ x ∧ x ≤ 9223372036854775807
instance (x : Int) : Decidable (Fit x) := by unfold Fit; infer_instance
def nm (u s t : Int) : Int := u * 2 ^ (s - lw s t).toNat * 5 ^ (t - lw s t).toNat
def enc (u d s t : Int) : Int × Int × Int × Int := if Fit (nm u s t) ∧ Fit d ∧ -1000 ≤ lw s t ∧ lw s t ≤ 1000 then (nm u s t, d, lw s t, 0) else (0, 0, 0, 10)
def Enc (v : Rat) (r : Int × Int × Int × Int) : Prop := ∃ u d s t, NF u d s t ∧ ev u d s t = v ∧ r = enc u d s t
theorem Enc.unique {v : Rat} {r r' : Int × Int × Int × Int} (h : Enc v r) (h' : Enc v r') : r = r' := by
  obtain ⟨u, d, s, t, n, e, rfl⟩ := h
  obtain ⟨u', d', s', t', n', e', rfl⟩ := h'
  obtain ⟨rfl, rfl, rfl, rfl⟩ := nf_unique n n' (e.trans e'.symm)
  rfl
theorem Enc.err {v : Rat} {r : Int × Int × Int × Int} (h : Enc v r) : r.2.2.2 = 0 ∨ r = (0, 0, 0, 10) := by
  obtain ⟨u, d, s, t, n, e, rfl⟩ := h
  unfold enc; split
  · exact Or.inl rfl
  · exact Or.inr rfl
structure RightP (n d t : Int) : Prop where
  nz : n ≠ 0
  fn : Fit n
  fd : Fit d
  pos : 0 < d
  d2 : ¬ 2 ∣ d
  d5 : ¬ 5 ∣ d
  n10 : ¬ 10 ∣ n
  co : Nat.Coprime n.natAbs d.natAbs
  lo : -1000 ≤ t
  hi : t ≤ 1000
def val (n d t : Int) : Rat := (n : Rat) / (d : Rat) * (10 : Rat) ^ t
theorem strip (b : Int) (hb : 2 ≤ b) : ∀ (m : Nat) (n : Int), n ≠ 0 → n.natAbs ≤ m → ∃ (j : Nat) (r : Int), n = r * b ^ j ∧ ¬ b ∣ r
  | 0, n, h, hm => by omega
  | m + 1, n, h, hm => by
    by_cases hd : b ∣ n
    · obtain ⟨q, rfl⟩ := hd
      have hq : q ≠ 0 := fun e => h (by rw [e, Int.mul_zero])
      have hlt : q.natAbs ≤ m := by
        rw [Int.natAbs_mul] at hm
        have : 2 * q.natAbs ≤ b.natAbs * q.natAbs := Nat.mul_le_mul_right _ (by omega)
        omega
      obtain ⟨j, r, e, hr⟩ := strip b hb m q hq hlt
      exact ⟨j + 1, r, by rw [Int.pow_succ, e]; grind, hr⟩
    · exact ⟨0, n, by simp, hd⟩
theorem decomp (n : Int) (h : n ≠ 0) : ∃ (u : Int) (a b : Nat), n = u * 2 ^ a * 5 ^ b ∧ Ct u := by
  obtain ⟨b, r, e, hr⟩ := strip 5 (by decide) n.natAbs n h (Nat.le_refl _)
  have hr0 : r ≠ 0 := fun z => h (by rw [e, z, Int.zero_mul])
  obtain ⟨a, u, e2, hu⟩ := strip 2 (by decide) r.natAbs r hr0 (Nat.le_refl _)
  refine ⟨u, a, b, by rw [e, e2], Ct.of hu fun h5 => hr ?_⟩
  rw [e2]
  obtain ⟨q, rfl⟩ := h5
  exact ⟨q * 2 ^ a, by grind⟩
theorem ev_val (u d s t : Int) : ev u d s t = val (nm u s t) d (lw s t) := by
  have e : ev u d s t = ev u d (((s - lw s t).toNat : Int) + lw s t) (((t - lw s t).toNat : Int) + lw s t) := by
    have h1 : lw s t ≤ s := by unfold lw; split <;> omega
    have h2 : lw s t ≤ t := by unfold lw; split <;> omega
    congr 1 <;> omega
  rw [e, ev_ten]
  unfold val nm ev
  rw [Rat.zpow_natCast, Rat.zpow_natCast]
  simp only [Rat.intCast_mul, Rat.intCast_pow, Rat.intCast_ofNat]
  congr 1
  rw [Rat.div_def, Rat.div_def]
  grind
theorem odd_pow5 {u : Int} (h : Ct u) (b : Nat) : ¬ (2 ∣ u * 5 ^ b) := fun h2 => by
  have h5 : Nat.Coprime 2 ((5 : Int) ^ b).natAbs := by rw [Int.natAbs_pow]; exact Nat.Coprime.pow_right b (by decide)
  have h2' : (2 : Nat) ∣ u.natAbs * ((5 : Int) ^ b).natAbs := by rw [← Int.natAbs_mul]; exact Int.natAbs_dvd_natAbs.2 h2
  exact h.two (by have := Nat.Coprime.dvd_of_dvd_mul_right h5 h2'; omega)
theorem odd_pow2 {u : Int} (h : Ct u) (b : Nat) : ¬ (5 ∣ u * 2 ^ b) := fun h2 => by
  have h5 : Nat.Coprime 5 ((2 : Int) ^ b).natAbs := by rw [Int.natAbs_pow]; exact Nat.Coprime.pow_right b (by decide)
  have h2' : (5 : Nat) ∣ u.natAbs * ((2 : Int) ^ b).natAbs := by rw [← Int.natAbs_mul]; exact Int.natAbs_dvd_natAbs.2 h2
  exact h.five (by have := Nat.Coprime.dvd_of_dvd_mul_right h5 h2'; omega)
theorem Ct.co2 {d : Int} (h : Ct d) (a : Nat) : Nat.Coprime ((2 : Int) ^ a).natAbs d.natAbs := by
  rw [Int.natAbs_pow]
  exact Nat.Coprime.pow_left a (Nat.Coprime.coprime_dvd_right (show (2 : Int).natAbs ∣ 10 by decide) h).symm
theorem Ct.co5 {d : Int} (h : Ct d) (a : Nat) : Nat.Coprime ((5 : Int) ^ a).natAbs d.natAbs := by
  rw [Int.natAbs_pow]
  exact Nat.Coprime.pow_left a (Nat.Coprime.coprime_dvd_right (show (5 : Int).natAbs ∣ 10 by decide) h).symm
theorem nm_not10 {u : Int} (h : Ct u) (s t : Int) : ¬ 10 ∣ nm u s t := fun h10 => by
  have h2 : (2 : Int) ∣ nm u s t := Int.dvd_trans ⟨5, by decide⟩ h10
  have h5 : (5 : Int) ∣ nm u s t := Int.dvd_trans ⟨2, by decide⟩ h10
  unfold nm lw at h2 h5
  by_cases e : t < s
  · rw [if_pos e, Int.sub_self, Int.toNat_zero, Int.pow_zero, Int.mul_one] at h5
    exact odd_pow2 h _ h5
  · rw [if_neg e, Int.sub_self, Int.toNat_zero, Int.pow_zero, Int.mul_one] at h2
    exact odd_pow5 h _ h2
theorem nm_ne {u : Int} (h : Ct u) (s t : Int) : nm u s t ≠ 0 := fun e => nm_not10 h s t (e ▸ ⟨0, rfl⟩)
theorem nm_co {u d : Int} (hd : Ct d) (h : Nat.Coprime u.natAbs d.natAbs) (s t : Int) : Nat.Coprime (nm u s t).natAbs d.natAbs := by
  unfold nm
  rw [Int.natAbs_mul, Int.natAbs_mul]
  exact Nat.Coprime.mul_left (Nat.Coprime.mul_left h (hd.co2 _)) (hd.co5 _)
theorem right_of_enc {u d s t n d' l : Int} (x : NF u d s t) (e : enc u d s t = (n, d', l, 0)) : RightP n d' l ∧ val n d' l = ev u d s t := by
  unfold enc at e
  split at e
  · rename_i h
    simp only [Prod.mk.injEq] at e
    obtain ⟨rfl, rfl, rfl, _⟩ := e
    exact ⟨⟨nm_ne x.hu s t, h.1, h.2.1, x.pos, x.hd.two, x.hd.five, nm_not10 x.hu s t, nm_co x.hd x.co s t, h.2.2.1, h.2.2.2⟩, (ev_val u d s t).symm⟩
  · simp at e
theorem Enc.right {v : Rat} {n d l : Int} (h : Enc v (n, d, l, 0)) : RightP n d l ∧ val n d l = v := by
  obtain ⟨u, d', s, t, x, e, r⟩ := h
  have := right_of_enc x r.symm
  exact ⟨this.1, this.2.trans e⟩
theorem RightP.form {n d t : Int} (h : RightP n d t) : ∃ u s t', NF u d s t' ∧ ev u d s t' = val n d t ∧ enc u d s t' = (n, d, t, 0) ∧ (t = s ∨ t = t') ∧ t ≤ s ∧ t ≤ t' ∧ n = u * 2 ^ (s - t).toNat * 5 ^ (t' - t).toNat := by
  obtain ⟨u, a, b, e, hu⟩ := decomp n h.nz
  have hd : Ct d := Ct.of h.d2 h.d5
  have hab : a = 0 ∨ b = 0 := by
    rcases Nat.eq_zero_or_pos a with z | z
    · exact Or.inl z
    · rcases Nat.eq_zero_or_pos b with y | y
      · exact Or.inr y
      · exfalso
        refine h.n10 ?_
        obtain ⟨a', rfl⟩ : ∃ q, a = q + 1 := ⟨a - 1, by omega⟩
        obtain ⟨b', rfl⟩ : ∃ q, b = q + 1 := ⟨b - 1, by omega⟩
        rw [e, Int.pow_succ, Int.pow_succ]
        exact ⟨u * 2 ^ a' * 5 ^ b', by grind⟩
  have hlw : lw ((a : Int) + t) ((b : Int) + t) = t := by unfold lw; split <;> omega
  have hnm : nm u ((a : Int) + t) ((b : Int) + t) = n := by
    unfold nm
    rw [hlw, e, show ((a : Int) + t - t).toNat = a from by omega, show ((b : Int) + t - t).toNat = b from by omega]
  have nf : NF u d ((a : Int) + t) ((b : Int) + t) := by
    refine ⟨hu, hd, h.pos, ?_⟩
    have := h.co
    rw [e, Int.natAbs_mul, Int.natAbs_mul] at this
    exact (this.coprime_mul_right).coprime_mul_right
  refine ⟨u, (a : Int) + t, (b : Int) + t, nf, ?_, ?_, ?_, by omega, by omega, ?_⟩
  · rw [ev_val, hnm, hlw]
  · unfold enc
    rw [hnm, hlw, if_pos ⟨h.fn, h.fd, h.lo, h.hi⟩]
  · omega
  · rw [show ((a : Int) + t - t).toNat = a from by omega, show ((b : Int) + t - t).toNat = b from by omega]; exact e
theorem RightP.enc {n d t : Int} (h : RightP n d t) : Enc (val n d t) (n, d, t, 0) := by
  obtain ⟨u, s, t', nf, e, en, _⟩ := h.form
  exact ⟨u, d, s, t', nf, e, en.symm⟩
theorem RightP.inj {n d t n' d' t' : Int} (h : RightP n d t) (h' : RightP n' d' t') (e : val n d t = val n' d' t') : n = n' ∧ d = d' ∧ t = t' := by
  have := Enc.unique h.enc (e ▸ h'.enc)
  simp only [Prod.mk.injEq] at this
  exact ⟨this.1, this.2.1, this.2.2.1⟩
theorem RightP.ne {n d t : Int} (h : RightP n d t) : val n d t ≠ 0 := by
  obtain ⟨u, s, t', nf, e, _⟩ := h.form
  rw [← e]; exact ev_ne nf
theorem natAbs_le_mul {a b : Int} (hb : b ≠ 0) : a.natAbs ≤ (a * b).natAbs := by
  rw [Int.natAbs_mul]
  exact Nat.le_mul_of_pos_right _ (by omega)
theorem nm_ge (u s t : Int) : u.natAbs ≤ (nm u s t).natAbs := by
  unfold nm
  exact Nat.le_trans (natAbs_le_mul (Int.pow_ne_zero (by decide))) (natAbs_le_mul (Int.pow_ne_zero (by decide)))
theorem fit_iff (x : Int) : Fit x ↔ x.natAbs ≤ 9223372036854775807 := by unfold Fit; omega
theorem enc_over {u d s t : Int} (h : ¬ Fit u ∨ ¬ Fit d) : enc u d s t = (0, 0, 0, 10) := by
  unfold enc
  rw [if_neg]
  rintro ⟨h1, h2, _⟩
  rcases h with h | h
  · rw [fit_iff] at h h1; have := nm_ge u s t; omega
  · exact h h2
/-- a power that can be written: so can all before it -/
theorem enc_pow_le {u d s t : Int} (hu : u ≠ 0) (hd : 0 < d) {i j : Nat} (h : i ≤ j) (e : (enc (u ^ j) (d ^ j) (s * j) (t * j)).2.2.2 = 0) : (enc (u ^ i) (d ^ i) (s * i) (t * i)).2.2.2 = 0 := by
  unfold enc at e ⊢
  have hl : ∀ q : Nat, lw (s * q) (t * q) = lw s t * q := fun q => by
    unfold lw
    by_cases h : t < s
    · rw [if_pos h]
      by_cases z : q = 0
      · subst z; simp
      · rw [if_pos (Int.mul_lt_mul_of_pos_right h (by omega))]
    · rw [if_neg h]
      rw [if_neg (by have := Int.mul_le_mul_of_nonneg_right (show s ≤ t by omega) (show (0 : Int) ≤ q by omega); omega)]
  have hn : ∀ q : Nat, nm (u ^ q) (s * q) (t * q) = (nm u s t) ^ q := fun q => by
    have p1 : ∀ z : Int, 0 ≤ z → ∀ x : Int, x ^ (z * q).toNat = (x ^ z.toNat) ^ q := fun z hz x => by
      obtain ⟨m, rfl⟩ := Int.eq_ofNat_of_zero_le hz
      rw [← Int.natCast_mul, Int.toNat_natCast, Int.toNat_natCast, Int.pow_mul]
    have l1 : lw s t ≤ s := by unfold lw; split <;> omega
    have l2 : lw s t ≤ t := by unfold lw; split <;> omega
    unfold nm
    rw [hl, ← Int.sub_mul, ← Int.sub_mul, p1 _ (by omega), p1 _ (by omega), Int.mul_pow, Int.mul_pow]
  rw [hl, hn] at e ⊢
  split at e
  · rename_i hc
    obtain ⟨c1, c2, c3, c4⟩ := hc
    rw [if_pos]
    have hm : ∀ x : Int, x ≠ 0 → Fit (x ^ j) → Fit (x ^ i) := fun x hx hf => by
      rw [fit_iff] at hf ⊢
      rw [Int.natAbs_pow] at hf ⊢
      exact Nat.le_trans (Nat.pow_le_pow_right (by omega) h) hf
    have hne : nm u s t ≠ 0 := by
      unfold nm
      exact Int.mul_ne_zero (Int.mul_ne_zero hu (Int.pow_ne_zero (by decide))) (Int.pow_ne_zero (by decide))
    refine ⟨hm _ hne c1, hm _ (by omega) c2, ?_, ?_⟩
    · rcases Int.le_total 0 (lw s t) with g | g
      · have := Int.mul_nonneg g (show (0 : Int) ≤ i by omega); omega
      · have := Int.mul_le_mul_of_nonneg_left (show (i : Int) ≤ j by omega) (show 0 ≤ -lw s t by omega); rw [Int.neg_mul, Int.neg_mul] at this; omega
    · rcases Int.le_total 0 (lw s t) with g | g
      · have := Int.mul_le_mul_of_nonneg_left (show (i : Int) ≤ j by omega) g; omega
      · have := Int.mul_nonpos_of_nonpos_of_nonneg g (show (0 : Int) ≤ i by omega); omega
  · simp at e
end Go.Proofs.YthfibffgmoblaaaDoor.Fr
namespace Go.Proofs.YthfibffgmoblaaaDoor.Wh
open Go.RowKit Go.Proofs.YthfibffgmoblaaaDoorW.PrintWords Go.Proofs.YthfibffgmoblaaaDoorW.PrintLast Go.Proofs.YthfibffgmoblaaaDoorW.PrintMore

/-- As Option.bind_some, but no law that holds by sight: else the kernel compares what the two sides bind. -/
theorem bs_ {α β : Type} (a : α) (f : α → Option β) : (some a).bind f = f a := by
  have h : ∀ o : Option α, o = some a → o.bind f = f a := fun o ho => by cases ho; rfl
  exact h _ rfl
theorem w64 {x : Int} (h : -9223372036854775808 ≤ x) (h2 : x ≤ 9223372036854775807) : wrap64 x = x := by unfold wrap64; omega
theorem wsucc {n : Nat} (h : n < 1000000000000) : wrap64 ((n : Int) + 1) = ((n + 1 : Nat) : Int) := by rw [w64 (by omega) (by omega)]; omega
/-- A 64-bit number. -/
def I64 (x : Int) : Prop := -9223372036854775808 ≤ x ∧ x ≤ 9223372036854775807
def fits (x : Int) : Bool := decide (-9223372036854775807 ≤ x)
theorem Fits_eq (x : Int) : PB.whole_Fits.f x = some (fits x) := rfl
theorem refFits_eq (x : Int) : PB.drachmref01_Fits.f x = some (fits x) := rfl
theorem fit_loop (l : List Int) (hl : l.length ≤ 1000) : ∀ (d i k : Nat), i + d = l.length → d < k → PB.whole_fit.l0 k l l.length i = some ((l.drop i).all fits) := by
  intro d
  induction d with
  | zero =>
    intro i k hi hk
    obtain ⟨k, rfl⟩ : ∃ m, k = m + 1 := ⟨k - 1, by omega⟩
    simp only [PB.whole_fit.l0]
    rw [if_neg (by omega), List.drop_of_length_le (by omega)]
    rfl
  | succ d ih =>
    intro i k hi hk
    obtain ⟨k, rfl⟩ : ∃ m, k = m + 1 := ⟨k - 1, by omega⟩
    have hlt : i < l.length := by omega
    simp only [PB.whole_fit.l0]
    rw [if_pos (by omega), if_pos (by omega), if_pos (by omega), Fits_eq, bs_, wsucc (by omega), ih (i + 1) k (by omega) (by omega), List.drop_eq_getElem_cons hlt, List.all_cons, show rd l i = l[i] from by simp [rd, hlt]]
    cases fits l[i] <;> rfl
theorem fit_ev (l : List Int) (hl : l.length ≤ 1000) : Ev (fun k => PB.whole_fit.f k l) (l.all fits) :=
  Ev.of (k := l.length + 1) (fun k => PB.whole_fit.mono l k) (fit_loop l hl l.length 0 _ (by omega) (by omega))


theorem u64w (n : Int) : IntKind.u64.wrap n = n % 18446744073709551616 := IntKind.wrap_u64 n
theorem u64in {n : Int} (h0 : 0 ≤ n) (h1 : n < 18446744073709551616) : IntKind.u64.wrap n = n := by rw [u64w]; omega
theorem mask32 (a : Int) (h0 : 0 ≤ a) (h1 : a < 18446744073709551616) : Go.bits .and .u64 a 4294967295 = a % 4294967296 := by
  rw [u64_and a 4294967295 h0 h1 (by omega) (by omega)]
  obtain ⟨A, rfl⟩ := Int.eq_ofNat_of_zero_le h0
  have h := Nat.and_two_pow_sub_one_eq_mod A 32
  rw [Int.toNat_natCast, show (4294967295 : Int).toNat = 2 ^ 32 - 1 from rfl, h]
  omega
/-- The product's parts. -/
theorem parts (x1 x0 y1 y0 : Int) : (4294967296 * x1 + x0) * (4294967296 * y1 + y0) = (x1 * y1) * 18446744073709551616 + (x1 * y0 + x0 * y1) * 4294967296 + x0 * y0 := by grind
theorem part_le {x y : Int} (hx : 0 ≤ x) (hx2 : x ≤ 4294967295) (hy : 0 ≤ y) (hy2 : y ≤ 4294967295) : 0 ≤ x * y ∧ x * y ≤ 18446744065119617025 :=
  ⟨Int.mul_nonneg hx hy, by have := Int.mul_le_mul hx2 hy2 hy (by decide); omega⟩
theorem hi_lo (p11 p10 p01 p00 : Int) :
    p11 + (p10 + p00 / 4294967296) / 4294967296 + ((p10 + p00 / 4294967296) % 4294967296 + p01) / 4294967296 = (p11 * 18446744073709551616 + (p10 + p01) * 4294967296 + p00) / 18446744073709551616 := by
  omega
theorem Mul64_eq (a b : Int) (ha : 0 ≤ a) (ha2 : a < 18446744073709551616) (hb : 0 ≤ b) (hb2 : b < 18446744073709551616) : PB.bits_Mul64.f a b = some ((a * b) / 18446744073709551616, (a * b) % 18446744073709551616) := by
  unfold PB.bits_Mul64.f
  have hx := part_le (x := a / 4294967296) (y := b / 4294967296) (by omega) (by omega) (by omega) (by omega)
  have hy := part_le (x := a / 4294967296) (y := b % 4294967296) (by omega) (by omega) (by omega) (by omega)
  have hz := part_le (x := a % 4294967296) (y := b / 4294967296) (by omega) (by omega) (by omega) (by omega)
  have hw := part_le (x := a % 4294967296) (y := b % 4294967296) (by omega) (by omega) (by omega) (by omega)
  have hab : a * b ≤ 340282366920938463426481119284349108225 := by
    have := Int.mul_le_mul (show a ≤ 18446744073709551615 by omega) (show b ≤ 18446744073709551615 by omega) hb (by decide)
    omega
  have hp := parts (a / 4294967296) (a % 4294967296) (b / 4294967296) (b % 4294967296)
  rw [Int.mul_ediv_add_emod, Int.mul_ediv_add_emod] at hp
  rw [hp] at hab
  rw [mask32 a ha ha2, mask32 b hb hb2]
  have hlo : IntKind.u64.wrap (a * b) = (a * b) % 18446744073709551616 := u64w _
  rw [hlo]
  clear hlo
  have key := hi_lo (a / 4294967296 * (b / 4294967296)) (a / 4294967296 * (b % 4294967296)) (a % 4294967296 * (b / 4294967296)) (a % 4294967296 * (b % 4294967296))
  have hbd := hab
  rw [← hp] at key
  rw [← key]
  clear key hp hab
  generalize a / 4294967296 * (b / 4294967296) = p11 at *
  generalize a / 4294967296 * (b % 4294967296) = p10 at *
  generalize a % 4294967296 * (b / 4294967296) = p01 at *
  generalize a % 4294967296 * (b % 4294967296) = p00 at *
  rw [u64in (n := p11) (by omega) (by omega), u64in (n := p10) (by omega) (by omega), u64in (n := p01) (by omega) (by omega), u64in (n := p00) (by omega) (by omega)]
  rw [u64in (n := p10 + p00 / 4294967296) (by omega) (by omega), mask32 (p10 + p00 / 4294967296) (by omega) (by omega)]
  rw [u64in (n := (p10 + p00 / 4294967296) % 4294967296 + p01) (by omega) (by omega), u64in (n := p11 + (p10 + p00 / 4294967296) / 4294967296) (by omega) (by omega)]
  rw [u64in (n := p11 + (p10 + p00 / 4294967296) / 4294967296 + ((p10 + p00 / 4294967296) % 4294967296 + p01) / 4294967296) (by omega) (by have := hi_lo p11 p10 p01 p00; omega)]
/-! Products. -/
def mulF (a b : Int) : Int × Bool := if -9223372036854775807 ≤ a ∧ -9223372036854775807 ≤ b ∧ -9223372036854775807 ≤ a * b ∧ a * b ≤ 9223372036854775807 then (a * b, true) else (0, false)
theorem size_eq (a : Int) (ha : -9223372036854775807 ≤ a) (ha2 : a ≤ 9223372036854775807) : PB.whole_size.f a = some (a.natAbs : Int) := by
  unfold PB.whole_size.f
  by_cases h : a < 0
  · rw [if_pos h, w64 (by omega) (by omega), u64in (by omega) (by omega)]; congr 1; omega
  · rw [if_neg h, u64in (by omega) (by omega)]; congr 1; omega
theorem refsize_eq (a : Int) (ha : -9223372036854775807 ≤ a) (ha2 : a ≤ 9223372036854775807) : PB.drachmref01_size.f a = some (a.natAbs : Int) := by
  unfold PB.drachmref01_size.f
  by_cases h : a < 0
  · rw [if_pos h, w64 (by omega) (by omega)]; congr 1; omega
  · rw [if_neg h]; congr 1; omega
theorem abs_cases (a b : Int) : ((a < 0 ↔ b < 0) ∧ ((a.natAbs : Int) * (b.natAbs : Int)) = a * b) ∨ (¬ (a < 0 ↔ b < 0) ∧ ((a.natAbs : Int) * (b.natAbs : Int)) = -(a * b)) := by
  by_cases h1 : a < 0 <;> by_cases h2 : b < 0
  · left; refine ⟨by simp [h1, h2], ?_⟩; rw [show (a.natAbs : Int) = -a by omega, show (b.natAbs : Int) = -b by omega, Int.neg_mul_neg]
  · right; refine ⟨by simp [h1, h2], ?_⟩; rw [show (a.natAbs : Int) = -a by omega, show (b.natAbs : Int) = b by omega, Int.neg_mul]
  · right; refine ⟨by simp [h1, h2], ?_⟩; rw [show (a.natAbs : Int) = a by omega, show (b.natAbs : Int) = -b by omega, Int.mul_neg]
  · left; refine ⟨by simp [h1, h2], ?_⟩; rw [show (a.natAbs : Int) = a by omega, show (b.natAbs : Int) = b by omega]
theorem abs_mul_le (a b : Int) (ha : I64 a) (hb : I64 b) : 0 ≤ (a.natAbs : Int) * (b.natAbs : Int) ∧ (a.natAbs : Int) * (b.natAbs : Int) ≤ 85070591730234615865843651857942052864 := by
  obtain ⟨a1, a2⟩ := ha
  obtain ⟨b1, b2⟩ := hb
  refine ⟨Int.mul_nonneg (by omega) (by omega), ?_⟩
  have := Int.mul_le_mul (show (a.natAbs : Int) ≤ 9223372036854775808 by omega) (show (b.natAbs : Int) ≤ 9223372036854775808 by omega) (by omega) (by decide)
  omega
def mulTail (k : Nat) (a b p : Int) : Option (Int × Bool) :=
  if p / 18446744073709551616 > 0 then (PB.whole_Mul.j0 k a b (p % 18446744073709551616) true) else (PB.whole_Mul.j0 k a b (p % 18446744073709551616) (decide (p % 18446744073709551616 > 9223372036854775807)))
theorem Mul_ev (a b : Int) (ha : I64 a) (hb : I64 b) : Ev (fun k => PB.whole_Mul.f k a b) (mulF a b) := by
  have hm := abs_mul_le a b ha hb
  obtain ⟨a1, a2⟩ := ha
  obtain ⟨b1, b2⟩ := hb
  have hf := fit_ev [a, b] (by simp)
  have hall : ([a, b].all fits = true) ↔ (-9223372036854775807 ≤ a ∧ -9223372036854775807 ≤ b) := by simp [fits]
  by_cases h : -9223372036854775807 ≤ a ∧ -9223372036854775807 ≤ b
  · rw [hall.2 h] at hf
    have hs := abs_cases a b
    have hk : ∀ k, ((PB.whole_size.f a).bind fun t111 => ((PB.whole_size.f b).bind fun t112 => ((PB.bits_Mul64.f t111 t112).bind fun bt113 => (if bt113.1 > 0 then (PB.whole_Mul.j0 k a b bt113.2 true) else (PB.whole_Mul.j0 k a b bt113.2 (decide (bt113.2 > 9223372036854775807))))))) =
        mulTail k a b ((a.natAbs : Int) * (b.natAbs : Int)) := by
      intro k
      rw [size_eq a h.1 a2, bs_, size_eq b h.2 b2, bs_, Mul64_eq _ _ (by omega) (by omega) (by omega) (by omega), bs_]
      rfl
    refine Ev.congr (fun k => rfl) (hf.bind (Ev.congr (f := fun k => mulTail k a b ((a.natAbs : Int) * (b.natAbs : Int))) (fun k => by rw [if_pos rfl]; exact hk k) ?_))
    clear hk
    unfold mulTail
    generalize (a.natAbs : Int) * (b.natAbs : Int) = p at *
    unfold mulF
    by_cases hp : p ≤ 9223372036854775807
    · have hy : -9223372036854775807 ≤ a ∧ -9223372036854775807 ≤ b ∧ -9223372036854775807 ≤ a * b ∧ a * b ≤ 9223372036854775807 := by omega
      rw [if_pos hy]
      refine Ev.congr (f := fun k => PB.whole_Mul.j0 k a b p false) (fun k => ?_) (Ev.step (f := fun _ => some (a * b, true)) (fun k => ?_) (Ev.now _))
      · rw [if_neg (by omega), show p % 18446744073709551616 = p by omega, decide_eq_false (by omega)]
      · simp only [PB.whole_Mul.j0]
        rw [if_neg (by decide), w64 (x := p) (by omega) (by omega)]
        by_cases g : (a < 0 ↔ b < 0)
        · have hg : (decide (a < 0) != decide (b < 0)) = false := by rw [bne_eq_false_iff_eq, decide_eq_decide]; exact g
          rw [hg, if_neg (by decide), show p = a * b by omega]
        · have hg : (decide (a < 0) != decide (b < 0)) = true := by rw [bne_iff_ne, ne_eq, decide_eq_decide]; exact g
          rw [if_pos hg, w64 (by omega) (by omega), show -p = a * b by omega]
    · rw [if_neg (by omega)]
      refine Ev.congr (f := fun k => PB.whole_Mul.j0 k a b (p % 18446744073709551616) true) (fun k => ?_) (Ev.step (f := fun _ => some (0, false)) (fun k => ?_) (Ev.now _))
      · by_cases g : p / 18446744073709551616 > 0
        · rw [if_pos g]
        · rw [if_neg g, decide_eq_true (by omega)]
      · simp only [PB.whole_Mul.j0]
        rw [if_pos trivial]
  · have hfa : [a, b].all fits = false := by
      cases e : [a, b].all fits
      · rfl
      · exact absurd (hall.1 e) h
    rw [hfa] at hf
    refine Ev.congr (fun k => rfl) (hf.bind (Ev.congr (f := fun _ => some (mulF a b)) (fun k => ?_) (Ev.now _)))
    rw [if_neg (by decide)]
    unfold mulF
    rw [if_neg (by omega)]
theorem abs_div (a b : Int) (h : a ≠ 0) : (b.natAbs : Int) > 9223372036854775807 / (a.natAbs : Int) ↔ (a.natAbs : Int) * (b.natAbs : Int) > 9223372036854775807 := by
  have h0 : 0 < (a.natAbs : Int) := by omega
  have := Int.ediv_lt_iff_lt_mul (a := 9223372036854775807) (b := (b.natAbs : Int)) h0
  rw [Int.mul_comm]
  omega
theorem refMul_ev (a b : Int) (ha : I64 a) (hb : I64 b) : Ev (fun k => PB.drachmref01_Mul.f k a b) (mulF a b) := by
  have hm := abs_mul_le a b ha hb
  have hs := abs_cases a b
  obtain ⟨a1, a2⟩ := ha
  obtain ⟨b1, b2⟩ := hb
  by_cases h : -9223372036854775807 ≤ a ∧ -9223372036854775807 ≤ b
  · refine Ev.congr (f := fun k => PB.drachmref01_Mul.j0 k a b false) (fun k => ?_) (Ev.step (f := fun _ => some (mulF a b)) (fun k => ?_) (Ev.now _))
    · unfold PB.drachmref01_Mul.f
      rw [refFits_eq, bs_, refFits_eq, bs_]
      unfold fits
      rw [decide_eq_true h.1, decide_eq_true h.2, if_pos rfl]
      rfl
    · simp only [PB.drachmref01_Mul.j0]
      rw [if_neg (by decide)]
      by_cases h0 : a = 0
      · subst h0
        rw [if_pos rfl, Int.zero_mul]
        unfold mulF
        rw [Int.zero_mul, if_pos (by omega), w64 (by omega) (by omega)]
      · rw [if_neg h0, refsize_eq b h.2 b2, bs_, refsize_eq a h.1 a2, bs_, if_neg (by omega), Int.tdiv_eq_ediv_of_nonneg (by decide)]
        have hd : 0 ≤ 9223372036854775807 / (a.natAbs : Int) ∧ 9223372036854775807 / (a.natAbs : Int) ≤ 9223372036854775807 := ⟨Int.ediv_nonneg (by decide) (by omega), Int.ediv_le_self _ (by decide)⟩
        rw [w64 (by omega) (by omega)]
        have hq := abs_div a b h0
        unfold mulF
        generalize (a.natAbs : Int) * (b.natAbs : Int) = p at *
        by_cases g : (b.natAbs : Int) > 9223372036854775807 / (a.natAbs : Int)
        · have := hq.1 g
          rw [if_pos g, if_neg (by omega)]
        · have : ¬ p > 9223372036854775807 := fun e => g (hq.2 e)
          rw [if_neg g, if_pos (by omega), w64 (by omega) (by omega)]
  · have hz : mulF a b = (0, false) := by unfold mulF; rw [if_neg (by omega)]
    rw [hz]
    refine Ev.congr (f := fun k => PB.drachmref01_Mul.j0 k a b true) (fun k => ?_) (Ev.step (f := fun _ => some (0, false)) (fun k => ?_) (Ev.now _))
    · unfold PB.drachmref01_Mul.f
      rw [refFits_eq, bs_, refFits_eq, bs_]
      unfold fits
      by_cases h1 : -9223372036854775807 ≤ a
      · rw [decide_eq_true h1, decide_eq_false (show ¬ -9223372036854775807 ≤ b by omega), if_pos rfl]
        rfl
      · rw [decide_eq_false h1, if_neg (by decide)]
    · simp only [PB.drachmref01_Mul.j0]
      rw [if_pos trivial]

def gcdF (a b : Int) : Int := if -9223372036854775807 ≤ a ∧ -9223372036854775807 ≤ b then (Int.gcd a b : Int) else 0
theorem gcd_ev (m y : Nat) : Ev (fun k => PB.whole_gcd_uint64.f k (m : Int) (y : Int)) (Nat.gcd m y : Int) := by
  have key : ∀ (n m y : Nat), y ≤ n → Ev (fun k => PB.whole_gcd_uint64.l0 k (m : Int) (y : Int)) (Nat.gcd m y : Int) := by
    intro n
    induction n with
    | zero =>
      intro m y hy
      obtain rfl : y = 0 := by omega
      refine Ev.step (f := fun _ => some (m : Int)) (fun k => ?_) (by rw [Nat.gcd_zero_right]; exact Ev.now _)
      simp only [PB.whole_gcd_uint64.l0]
      rw [if_pos (by rfl)]
    | succ n ih =>
      intro m y hy
      by_cases h0 : y = 0
      · subst h0
        refine Ev.step (f := fun _ => some (m : Int)) (fun k => ?_) (by rw [Nat.gcd_zero_right]; exact Ev.now _)
        simp only [PB.whole_gcd_uint64.l0]
        rw [if_pos (by rfl)]
      · have hlt : m % y < y := Nat.mod_lt _ (by omega)
        rw [Nat.gcd_comm, Nat.gcd_rec, Nat.gcd_comm]
        refine Ev.step (fun k => ?_) (ih y (m % y) (by omega))
        simp only [PB.whole_gcd_uint64.l0]
        rw [if_neg (by omega), Int.tmod_eq_emod_of_nonneg (by omega)]
        rfl
  exact key y m y (Nat.le_refl _)
theorem gcdF_le (a b : Int) (ha : I64 a) (hb : I64 b) : 0 ≤ gcdF a b ∧ gcdF a b ≤ 9223372036854775807 := by
  obtain ⟨a1, a2⟩ := ha
  obtain ⟨b1, b2⟩ := hb
  unfold gcdF
  split
  · by_cases h0 : a = 0
    · subst h0; rw [Int.gcd_zero_left]; omega
    · have := Nat.le_of_dvd (by omega) (Nat.gcd_dvd_left a.natAbs b.natAbs)
      change Int.gcd a b ≤ _ at this
      omega
  · omega
theorem Gcd_ev (a b : Int) (ha : I64 a) (hb : I64 b) : Ev (fun k => PB.whole_Gcd.f k a b) (gcdF a b) := by
  have hle := gcdF_le a b ha hb
  obtain ⟨a1, a2⟩ := ha
  obtain ⟨b1, b2⟩ := hb
  have hf := fit_ev [a, b] (by simp)
  have hall : ([a, b].all fits = true) ↔ (-9223372036854775807 ≤ a ∧ -9223372036854775807 ≤ b) := by simp [fits]
  by_cases h : -9223372036854775807 ≤ a ∧ -9223372036854775807 ≤ b
  · rw [hall.2 h] at hf
    unfold gcdF at hle ⊢
    rw [if_pos h] at hle ⊢
    refine Ev.congr (fun k => rfl) (hf.bind (Ev.congr (f := fun k => (PB.whole_gcd_uint64.f k (a.natAbs : Int) (b.natAbs : Int)).bind fun t => some (wrap64 t)) (fun k => ?_) ((gcd_ev _ _).bind (Ev.congr (f := fun _ => some (Int.gcd a b : Int)) (fun k => ?_) (Ev.now _)))))
    · rw [if_pos rfl, size_eq a h.1 a2, bs_, size_eq b h.2 b2, bs_]
    · change some (wrap64 (Int.gcd a b : Int)) = _
      rw [w64 (by omega) (by omega)]
  · have hfa : [a, b].all fits = false := by
      cases e : [a, b].all fits
      · rfl
      · exact absurd (hall.1 e) h
    rw [hfa] at hf
    refine Ev.congr (fun k => rfl) (hf.bind (Ev.congr (f := fun _ => some (gcdF a b)) (fun k => ?_) (Ev.now _)))
    rw [if_neg (by decide)]
    unfold gcdF
    rw [if_neg h]
theorem refGcd_ev (a b : Int) (ha : I64 a) (hb : I64 b) : Ev (fun k => PB.drachmref01_Gcd.f k a b) (gcdF a b) := by
  obtain ⟨a1, a2⟩ := ha
  obtain ⟨b1, b2⟩ := hb
  have key : ∀ (n m y : Nat), y ≤ n → Ev (fun k => PB.drachmref01_Gcd.l0 k (m : Int) (y : Int)) (Nat.gcd m y : Int) := by
    intro n
    induction n with
    | zero =>
      intro m y hy
      obtain rfl : y = 0 := by omega
      refine Ev.step (f := fun _ => some (m : Int)) (fun k => ?_) (by rw [Nat.gcd_zero_right]; exact Ev.now _)
      simp only [PB.drachmref01_Gcd.l0]
      rw [if_neg (by omega)]
    | succ n ih =>
      intro m y hy
      by_cases h0 : y = 0
      · subst h0
        refine Ev.step (f := fun _ => some (m : Int)) (fun k => ?_) (by rw [Nat.gcd_zero_right]; exact Ev.now _)
        simp only [PB.drachmref01_Gcd.l0]
        rw [if_neg (by omega)]
      · have hlt : m % y < y := Nat.mod_lt _ (by omega)
        rw [Nat.gcd_comm, Nat.gcd_rec, Nat.gcd_comm]
        refine Ev.step (fun k => ?_) (ih y (m % y) (by omega))
        simp only [PB.drachmref01_Gcd.l0]
        rw [if_pos (by omega), if_neg (by omega), Int.tmod_eq_emod_of_nonneg (by omega)]
        rfl
  by_cases h : -9223372036854775807 ≤ a ∧ -9223372036854775807 ≤ b
  · unfold gcdF
    rw [if_pos h]
    refine Ev.congr (f := fun k => PB.drachmref01_Gcd.j0 k a b false) (fun k => ?_) (Ev.step (fun k => ?_) (key b.natAbs a.natAbs b.natAbs (Nat.le_refl _)))
    · unfold PB.drachmref01_Gcd.f
      rw [refFits_eq, bs_, refFits_eq, bs_]
      unfold fits
      rw [decide_eq_true h.1, decide_eq_true h.2, if_pos rfl]
      rfl
    · simp only [PB.drachmref01_Gcd.j0]
      rw [if_neg (by decide), refsize_eq a h.1 a2, bs_, refsize_eq b h.2 b2, bs_]
  · have hz : gcdF a b = 0 := by unfold gcdF; rw [if_neg h]
    rw [hz]
    refine Ev.congr (f := fun k => PB.drachmref01_Gcd.j0 k a b true) (fun k => ?_) (Ev.step (f := fun _ => some 0) (fun k => ?_) (Ev.now _))
    · unfold PB.drachmref01_Gcd.f
      rw [refFits_eq, bs_, refFits_eq, bs_]
      unfold fits
      by_cases h1 : -9223372036854775807 ≤ a
      · rw [decide_eq_true h1, decide_eq_false (show ¬ -9223372036854775807 ≤ b by omega), if_pos rfl]
        rfl
      · rw [decide_eq_false h1, if_neg (by decide)]
    · simp only [PB.drachmref01_Gcd.j0]
      rw [if_pos trivial]

/-! What is split: how often, and what is left. -/
theorem tdiv_lt {x by' : Int} (hx : x ≠ 0) (hb : 2 ≤ by') (hd : Int.tmod x by' = 0) : (Int.tdiv x by').natAbs < x.natAbs ∧ Int.tdiv x by' ≠ 0 ∧ Int.tdiv x by' * by' = x := by
  have h := Int.mul_tdiv_add_tmod x by'
  rw [hd, Int.add_zero] at h
  have h3 : Int.tdiv x by' * by' = x := by rw [Int.mul_comm]; exact h
  have h2 : Int.tdiv x by' ≠ 0 := fun e => by rw [e] at h3; omega
  refine ⟨?_, h2, h3⟩
  have h4 : x.natAbs = (Int.tdiv x by').natAbs * by'.natAbs := by rw [← Int.natAbs_mul, h3]
  rw [h4]
  have h5 : 2 ≤ by'.natAbs := by omega
  have h6 : (Int.tdiv x by').natAbs * 2 ≤ (Int.tdiv x by').natAbs * by'.natAbs := Nat.mul_le_mul_left _ h5
  omega
def splitL : Nat → Int → Int → Int → Int × Int
  | 0, x, _, k => (k, x)
  | n + 1, x, b, k => if Int.tmod x b = 0 then splitL n (Int.tdiv x b) b (k + 1) else (k, x)
def splitF (n b : Int) : Int × Int := if n = 0 ∨ b < 2 ∨ n < -9223372036854775807 then (0, n) else splitL n.natAbs n b 0
theorem tdiv_in {x b : Int} (hx : I64 x) (hb : 2 ≤ b) (h0 : x ≠ 0) (hd : Int.tmod x b = 0) : I64 (Int.tdiv x b) := by
  have := tdiv_lt h0 hb hd
  obtain ⟨x1, x2⟩ := hx
  unfold I64
  omega
theorem splitL_ev (b : Int) (hb : 2 ≤ b) : ∀ (n : Nat) (x k : Int), x ≠ 0 → x.natAbs ≤ n → I64 x → 0 ≤ k → k + n ≤ 9223372036854775807 → Ev (fun f => PB.whole_Split.l0 f x b k) (splitL n x b k) := by
  intro n
  induction n with
  | zero => intro x k h0 hn; omega
  | succ n ih =>
    intro x k h0 hn hx hk hkn
    unfold splitL
    by_cases hd : Int.tmod x b = 0
    · have ht := tdiv_lt h0 hb hd
      rw [if_pos hd]
      refine Ev.step (fun f => ?_) (ih (Int.tdiv x b) (k + 1) ht.2.1 (by omega) (tdiv_in hx hb h0 hd) (by omega) (by omega))
      have hi := tdiv_in hx hb h0 hd
      simp only [PB.whole_Split.l0]
      rw [if_neg (by omega), if_pos hd, w64 (x := Int.tdiv x b) hi.1 hi.2, w64 (x := k + 1) (by omega) (by omega)]
    · rw [if_neg hd]
      refine Ev.step (f := fun _ => some (k, x)) (fun f => ?_) (Ev.now _)
      simp only [PB.whole_Split.l0]
      rw [if_neg (by omega), if_neg hd]
theorem refSplitL_ev (b : Int) (hb : 2 ≤ b) : ∀ (n : Nat) (x k : Int), x ≠ 0 → x.natAbs ≤ n → I64 x → 0 ≤ k → k + n ≤ 9223372036854775807 → Ev (fun f => PB.drachmref01_Split.l0 f b k x) (splitL n x b k) := by
  intro n
  induction n with
  | zero => intro x k h0 hn; omega
  | succ n ih =>
    intro x k h0 hn hx hk hkn
    unfold splitL
    by_cases hd : Int.tmod x b = 0
    · have ht := tdiv_lt h0 hb hd
      rw [if_pos hd]
      refine Ev.step (fun f => ?_) (ih (Int.tdiv x b) (k + 1) ht.2.1 (by omega) (tdiv_in hx hb h0 hd) (by omega) (by omega))
      have hi := tdiv_in hx hb h0 hd
      simp only [PB.drachmref01_Split.l0]
      rw [if_neg (by omega), if_pos hd, w64 (x := Int.tdiv x b) hi.1 hi.2, w64 (x := k + 1) (by omega) (by omega)]
    · rw [if_neg hd]
      refine Ev.step (f := fun _ => some (k, x)) (fun f => ?_) (Ev.now _)
      simp only [PB.drachmref01_Split.l0]
      rw [if_neg (by omega), if_neg hd]
theorem Split_ev (n b : Int) (hn : I64 n) : Ev (fun k => PB.whole_Split.f k n b) (splitF n b) := by
  have hn' := hn
  obtain ⟨n1, n2⟩ := hn
  unfold splitF
  by_cases h : n = 0 ∨ b < 2 ∨ n < -9223372036854775807
  · rw [if_pos h]
    refine Ev.congr (f := fun k => PB.whole_Split.j0 k n b true) (fun k => ?_) (Ev.step (f := fun _ => some (0, n)) (fun k => ?_) (Ev.now _))
    · unfold PB.whole_Split.f
      by_cases h1 : n = 0
      · rw [if_pos h1]
      · rw [if_neg h1]
        by_cases h2 : b < 2
        · rw [if_pos h2]
        · rw [if_neg h2, Fits_eq, bs_]
          unfold fits
          rw [decide_eq_false (by omega)]
          rfl
    · simp only [PB.whole_Split.j0]
      rw [if_pos trivial]
  · rw [if_neg h]
    refine Ev.congr (f := fun k => PB.whole_Split.j0 k n b false) (fun k => ?_) (Ev.step (fun k => ?_) (splitL_ev b (by omega) n.natAbs n 0 (by omega) (Nat.le_refl _) hn' (by omega) (by omega)))
    · unfold PB.whole_Split.f
      rw [if_neg (by omega), if_neg (by omega), Fits_eq, bs_]
      unfold fits
      rw [decide_eq_true (by omega)]
      rfl
    · simp only [PB.whole_Split.j0]
      rw [if_neg (by decide)]
theorem refSplit_ev (n b : Int) (hn : I64 n) : Ev (fun k => PB.drachmref01_Split.f k n b) (splitF n b) := by
  have hn' := hn
  obtain ⟨n1, n2⟩ := hn
  unfold splitF
  by_cases h : n = 0 ∨ b < 2 ∨ n < -9223372036854775807
  · rw [if_pos h]
    refine Ev.congr (f := fun k => PB.drachmref01_Split.j0 k b true 0 n) (fun k => ?_) (Ev.step (f := fun _ => some (0, n)) (fun k => ?_) (Ev.now _))
    · unfold PB.drachmref01_Split.f
      rw [refFits_eq, bs_]
      unfold fits
      by_cases h1 : -9223372036854775807 ≤ n
      · rw [decide_eq_true h1, if_pos rfl]
        by_cases h2 : n = 0
        · rw [if_pos h2]
        · rw [if_neg h2, decide_eq_true (by omega)]
      · rw [decide_eq_false h1, if_neg (by decide)]
    · simp only [PB.drachmref01_Split.j0]
      rw [if_pos trivial]
  · rw [if_neg h]
    refine Ev.congr (f := fun k => PB.drachmref01_Split.j0 k b false 0 n) (fun k => ?_) (Ev.step (fun k => ?_) (refSplitL_ev b (by omega) n.natAbs n 0 (by omega) (Nat.le_refl _) hn' (by omega) (by omega)))
    · unfold PB.drachmref01_Split.f
      rw [refFits_eq, bs_]
      unfold fits
      rw [decide_eq_true (by omega), if_pos rfl, if_neg (by omega), decide_eq_false (by omega)]
    · simp only [PB.drachmref01_Split.j0]
      rw [if_neg (by decide)]
end Go.Proofs.YthfibffgmoblaaaDoor.Wh
namespace Go.Proofs.YthfibffgmoblaaaDoor.Fr
open Go.RowKit Go.Proofs.YthfibffgmoblaaaDoor.Wh Go.Proofs.YthfibffgmoblaaaDoor.PB Go.Proofs.YthfibffgmoblaaaDoor.PC Go.Proofs.YthfibffgmoblaaaDoorW.PrintWords Go.Proofs.YthfibffgmoblaaaDoorW.PrintLast Go.Proofs.YthfibffgmoblaaaDoorW.PrintMore
set_option linter.unusedVariables false
theorem Fit.i64 {x : Int} (h : Fit x) : I64 x := by unfold Fit at h; unfold I64; omega
theorem splitL_spec (b : Int) (hb : 2 ≤ b) : ∀ (m : Nat) (x k : Int), x ≠ 0 → x.natAbs ≤ m → ∃ (j : Nat) (r : Int), splitL m x b k = (k + j, r) ∧ x = r * b ^ j ∧ ¬ b ∣ r
  | 0, x, k, h, hm => by omega
  | m + 1, x, k, h, hm => by
    unfold splitL
    by_cases hd : Int.tmod x b = 0
    · rw [if_pos hd]
      have t := tdiv_lt h hb hd
      obtain ⟨j, r, e, e2, hr⟩ := splitL_spec b hb m (Int.tdiv x b) (k + 1) t.2.1 (by omega)
      refine ⟨j + 1, r, by rw [e]; congr 1; rw [Int.natCast_add]; omega, ?_, hr⟩
      rw [Int.pow_succ, ← Int.mul_assoc, ← e2, t.2.2]
    · rw [if_neg hd]
      exact ⟨0, x, by simp, by simp, fun h => hd (Int.tmod_eq_zero_of_dvd h)⟩
theorem splitF_spec {n b : Int} (hn : n ≠ 0) (hf : Fit n) (hb : 2 ≤ b) : ∃ (j : Nat) (r : Int), splitF n b = ((j : Int), r) ∧ n = r * b ^ j ∧ ¬ b ∣ r ∧ j ≤ 63 ∧ r ≠ 0 ∧ Fit r := by
  obtain ⟨j, r, e, e2, hr⟩ := splitL_spec b hb n.natAbs n 0 hn (Nat.le_refl _)
  have hr0 : r ≠ 0 := fun z => hn (by rw [e2, z, Int.zero_mul])
  have hf' := (fit_iff n).1 hf
  refine ⟨j, r, ?_, e2, hr, ?_, hr0, ?_⟩
  · unfold splitF
    rw [if_neg (by unfold Fit at hf; omega), e]; simp
  · have h1 : n.natAbs = r.natAbs * b.natAbs ^ j := by rw [← Int.natAbs_pow, ← Int.natAbs_mul, ← e2]
    have h2 : 2 ^ j ≤ b.natAbs ^ j := Nat.pow_le_pow_left (by omega) j
    have h3 : b.natAbs ^ j ≤ r.natAbs * b.natAbs ^ j := Nat.le_mul_of_pos_left _ (by omega)
    rcases Nat.lt_or_ge 63 j with g | g
    · have : 2 ^ 64 ≤ 2 ^ j := Nat.pow_le_pow_right (by decide) g
      omega
    · exact g
  · rw [fit_iff]
    have h1 : n.natAbs = r.natAbs * (b ^ j).natAbs := by rw [← Int.natAbs_mul, ← e2]
    have h3 : r.natAbs ≤ r.natAbs * (b ^ j).natAbs := Nat.le_mul_of_pos_right _ (by
      have : b ^ j ≠ 0 := Int.pow_ne_zero (by omega)
      omega)
    omega
theorem gcd_parts {a b : Int} (ha : a ≠ 0) (fa : Fit a) (fb : Fit b) : ∃ x y : Int, gcdF a b = (Int.gcd a b : Int) ∧ 0 < gcdF a b ∧ a = gcdF a b * x ∧ b = gcdF a b * y ∧ Nat.Coprime x.natAbs y.natAbs ∧ gcdF a b ≤ 9223372036854775807 := by
  have e : gcdF a b = (Int.gcd a b : Int) := by unfold gcdF; rw [if_pos ⟨fa.1, fb.1⟩]
  have hp : 0 < Int.gcd a b := Nat.gcd_pos_of_pos_left _ (by omega)
  obtain ⟨x, hx⟩ := Int.gcd_dvd_left a b
  obtain ⟨y, hy⟩ := Int.gcd_dvd_right a b
  refine ⟨x, y, e, by omega, by rw [e]; exact hx, by rw [e]; exact hy, ?_, (gcdF_le a b fa.i64 fb.i64).2⟩
  have h1 : Int.gcd a b = Int.gcd ((Int.gcd a b : Int) * x) ((Int.gcd a b : Int) * y) := by rw [← hx, ← hy]
  rw [Int.gcd_mul_left, Int.natAbs_natCast] at h1
  have h2 : Int.gcd a b * 1 = Int.gcd a b * Int.gcd x y := by rw [Nat.mul_one]; exact h1
  exact (Nat.eq_of_mul_eq_mul_left hp h2).symm
theorem tdiv_mul {g x : Int} (hg : g ≠ 0) : Int.tdiv (g * x) g = x := Int.mul_tdiv_cancel_left _ hg
theorem fit_of_mul {g x : Int} (hg : g ≠ 0) (h : Fit (g * x)) : Fit x := by
  rw [fit_iff] at h ⊢
  rw [Int.natAbs_mul] at h
  have : x.natAbs ≤ g.natAbs * x.natAbs := Nat.le_mul_of_pos_left _ (by omega)
  omega
theorem zsub2 (a b : Nat) : (2 : Rat) ^ ((a : Int) - b) * (2 : Rat) ^ b = (2 : Rat) ^ a := by
  rw [← Rat.zpow_natCast 2 b, ← Rat.zpow_natCast 2 a, ← Rat.zpow_add r2]; congr 1; omega
theorem zsub5 (a b : Nat) : (5 : Rat) ^ ((a : Int) - b) * (5 : Rat) ^ b = (5 : Rat) ^ a := by
  rw [← Rat.zpow_natCast 5 b, ← Rat.zpow_natCast 5 a, ← Rat.zpow_add r5]; congr 1; omega
/-- what is behind twos and fives, both -/
theorem quot_ev {num den u2 d2 x y g u d : Int} {a b c e : Nat} (hn : num = u2 * 5 ^ c * 2 ^ a) (hd : den = d2 * 5 ^ e * 2 ^ b) (h1 : u2 = g * x) (h2 : d2 = g * y) (hg : g ≠ 0) (hy : y ≠ 0) (hs : u = x ∧ d = y ∨ u = -x ∧ d = -y) :
    ev u d ((a : Int) - b) ((c : Int) - e) = (num : Rat) / den := by
  have z2 := zsub2 a b
  have z5 := zsub5 c e
  have n2 : (2 : Rat) ^ b ≠ 0 := by rw [← Rat.zpow_natCast]; exact zpos2 _
  have n5 : (5 : Rat) ^ e ≠ 0 := by rw [← Rat.zpow_natCast]; exact zpos5 _
  have hgr := cast_ne hg
  have hyr := cast_ne hy
  subst h1 h2 hn hd
  unfold ev
  simp only [Rat.intCast_mul, Rat.intCast_pow, Rat.intCast_ofNat]
  rw [← z2, ← z5]
  generalize (2 : Rat) ^ ((a : Int) - b) = A at *
  generalize (5 : Rat) ^ ((c : Int) - e) = C at *
  generalize (2 : Rat) ^ b = B at *
  generalize (5 : Rat) ^ e = E at *
  rcases hs with ⟨rfl, rfl⟩ | ⟨rfl, rfl⟩
  · grind
  · rw [Rat.intCast_neg, Rat.intCast_neg]; grind
theorem wrap_in {x : Int} (h : -9223372036854775808 ≤ x) (h2 : x ≤ 9223372036854775807) : wrap64 x = x := w64 h h2
theorem loosen_ev {num den : Int} (hn : num ≠ 0) (fn : Fit num) (hd : den ≠ 0) (fd : Fit den) : ∃ u d s t, Ev (fun k => frac_loosen.f k num den) (u, d, s, t) ∧ NF u d s t ∧ ev u d s t = (num : Rat) / den ∧ Fit u ∧ Fit d ∧ -63 ≤ s ∧ s ≤ 63 ∧ -63 ≤ t ∧ t ≤ 63 := by
  obtain ⟨a, u1, s1, e1, q1, ja, n1, f1⟩ := splitF_spec (b := 2) hn fn (by decide)
  obtain ⟨b, d1, s2, e2, q2, jb, n2, f2⟩ := splitF_spec (b := 2) hd fd (by decide)
  obtain ⟨c, u2, s3, e3, q3, jc, n3, f3⟩ := splitF_spec (b := 5) n1 f1 (by decide)
  obtain ⟨e, d2, s4, e4, q4, je, n4, f4⟩ := splitF_spec (b := 5) n2 f2 (by decide)
  obtain ⟨x, y, hgc, hg, hx, hy, hco, hgl⟩ := gcd_parts n3 f3 f4
  have p1 := Split_ev num 2 fn.i64
  have p2 := Split_ev den 2 fd.i64
  have p3 := Split_ev u1 5 f1.i64
  have p4 := Split_ev d1 5 f2.i64
  have p5 := Gcd_ev u2 d2 f3.i64 f4.i64
  rw [s1] at p1
  rw [s2] at p2
  rw [s3] at p3
  rw [s4] at p4
  generalize gcdF u2 d2 = g at *
  have c2 : Ct u2 := Ct.of (fun h => q1 (by rw [e3]; exact Int.dvd_mul_of_dvd_left h)) q3
  have c4 : Ct d2 := Ct.of (fun h => q2 (by rw [e4]; exact Int.dvd_mul_of_dvd_left h)) q4
  have cx : Ct x := c2.of_dvd ⟨g, by rw [Int.mul_comm]; exact hx⟩
  have cy : Ct y := c4.of_dvd ⟨g, by rw [Int.mul_comm]; exact hy⟩
  have fx : Fit x := fit_of_mul (g := g) (by omega) (hx ▸ f3)
  have fy : Fit y := fit_of_mul (g := g) (by omega) (hy ▸ f4)
  have eN : num = u2 * 5 ^ c * 2 ^ a := by rw [← e3, ← e1]
  have eD : den = d2 * 5 ^ e * 2 ^ b := by rw [← e4, ← e2]
  have b1 : wrap64 ((a : Int) - b) = (a : Int) - b := w64 (by omega) (by omega)
  have b2 : wrap64 ((c : Int) - e) = (c : Int) - e := w64 (by omega) (by omega)
  have fx' := fx
  have fy' := fy
  unfold Fit at fx' fy'
  by_cases neg : d2 < 0
  · have hy0 : y < 0 := by
      rcases Int.lt_or_le y 0 with z | z
      · exact z
      · have := Int.mul_nonneg (show 0 ≤ g by omega) z; rw [← hy] at this; omega
    refine ⟨-x, -y, (a : Int) - b, (c : Int) - e, ?_, ⟨cx.neg, cy.neg, by omega, by rw [Int.natAbs_neg, Int.natAbs_neg]; exact hco⟩, quot_ev eN eD hx hy (by omega) cy.ne (Or.inr ⟨rfl, rfl⟩), ?_, ?_, by omega, by omega, by omega, by omega⟩
    · refine Ev.congr (fun k => rfl) (p1.bind (p2.bind (p3.bind (p4.bind (p5.bind (Ev.congr (f := fun _ => some (-x, -y, (a : Int) - b, (c : Int) - e)) (fun k => ?_) (Ev.now _)))))))
      show (if d2 < 0 then _ else _) = _
      rw [if_pos neg, w64 (x := -g) (by omega) (by omega), if_neg (by omega)]
      have t1 : Int.tdiv u2 (-g) = -x := by rw [hx, Int.tdiv_neg, tdiv_mul (by omega)]
      have t2 : Int.tdiv d2 (-g) = -y := by rw [hy, Int.tdiv_neg, tdiv_mul (by omega)]
      rw [t1, t2, b1, b2, w64 (x := -x) (by omega) (by omega), w64 (x := -y) (by omega) (by omega)]
    · unfold Fit; omega
    · unfold Fit; omega
  · have hy0 : 0 < y := by
      rcases Int.lt_trichotomy y 0 with z | z | z
      · exfalso; have := Int.mul_neg_of_pos_of_neg hg z; rw [← hy] at this; omega
      · exact absurd z cy.ne
      · exact z
    refine ⟨x, y, (a : Int) - b, (c : Int) - e, ?_, ⟨cx, cy, hy0, hco⟩, quot_ev eN eD hx hy (by omega) cy.ne (Or.inl ⟨rfl, rfl⟩), fx, fy, by omega, by omega, by omega, by omega⟩
    refine Ev.congr (fun k => rfl) (p1.bind (p2.bind (p3.bind (p4.bind (p5.bind (Ev.congr (f := fun _ => some (x, y, (a : Int) - b, (c : Int) - e)) (fun k => ?_) (Ev.now _)))))))
    show (if d2 < 0 then _ else _) = _
    rw [if_neg neg, if_neg (by omega)]
    have t1 : Int.tdiv u2 g = x := by rw [hx, tdiv_mul (by omega)]
    have t2 : Int.tdiv d2 g = y := by rw [hy, tdiv_mul (by omega)]
    rw [t1, t2, b1, b2, w64 (x := x) (by omega) (by omega), w64 (x := y) (by omega) (by omega)]
theorem mulF_fit {a b : Int} (fa : Fit a) (fb : Fit b) (h : Fit (a * b)) : mulF a b = (a * b, true) := by unfold mulF; rw [if_pos ⟨fa.1, fb.1, h.1, h.2⟩]
theorem mulF_not {a b : Int} (h : ¬ Fit (a * b)) : mulF a b = (0, false) := by unfold mulF; rw [if_neg (fun c => h ⟨c.2.2.1, c.2.2.2⟩)]
theorem putN_ev (p : Int) (hp : p = 2 ∨ p = 5) : ∀ (d : Nat) (n : Int), n ≠ 0 → Fit n → ∃ r, Ev (fun k => putN k p d n true) r ∧ Fit r.1 ∧ (Fit (n * p ^ d) → r = (n * p ^ d, true)) ∧ (¬ Fit (n * p ^ d) → r.2 = false)
  | 0, n, h, hf => ⟨(n, true), Ev.now _, hf, fun _ => by simp, fun c => absurd (by simpa using hf) c⟩
  | d + 1, n, h, hf => by
    have fp : Fit p := by unfold Fit; omega
    have m := Mul_ev n p hf.i64 fp.i64
    have e : n * p ^ (d + 1) = n * p * p ^ d := by rw [Int.pow_succ]; grind
    by_cases hm : Fit (n * p)
    · rw [mulF_fit hf fp hm] at m
      obtain ⟨r, hr, h1, h2, h3⟩ := putN_ev p hp d (n * p) (Int.mul_ne_zero h (by omega)) hm
      refine ⟨r, ?_, h1, ?_, ?_⟩
      · exact Ev.congr (fun k => by unfold putN; rfl) (m.bind (Ev.congr (fun k => by rw [if_pos (by rfl)]) hr))
      · rw [e]; exact h2
      · rw [e]; exact h3
    · rw [mulF_not hm] at m
      refine ⟨(n, false), ?_, hf, ?_, fun _ => rfl⟩
      · exact Ev.congr (fun k => by unfold putN; rfl) (m.bind (Ev.congr (f := fun _ => some (n, false)) (fun k => by rw [if_neg (by decide)]) (Ev.now _)))
      · intro c
        exfalso
        refine hm ?_
        rw [e, fit_iff] at c
        rw [fit_iff]
        have := natAbs_le_mul (a := n * p) (b := p ^ d) (Int.pow_ne_zero (by omega))
        omega
theorem putN_false (p : Int) (hp : p = 2 ∨ p = 5) (d : Nat) (n : Int) (hf : Fit n) : Ev (fun k => putN k p d n false) (n, false) := by
  cases d with
  | zero => exact Ev.now _
  | succ d =>
    have fp : Fit p := by unfold Fit; omega
    exact Ev.congr (fun k => by unfold putN; rfl) ((Mul_ev n p hf.i64 fp.i64).bind (Ev.congr (f := fun _ => some (n, false)) (fun k => by rw [if_neg (by simp)]) (Ev.now _)))
theorem lw_mn (s t : Int) : mn s t = lw s t := rfl
theorem lw_ten (s t ten : Int) : lw (s + ten) (t + ten) = lw s t + ten := by unfold lw; by_cases h : t < s <;> simp [h]
theorem nm_ten (u s t ten : Int) : nm u (s + ten) (t + ten) = nm u s t := by
  unfold nm; rw [lw_ten, show s + ten - (lw s t + ten) = s - lw s t by omega, show t + ten - (lw s t + ten) = t - lw s t by omega]
theorem form_ev {u d s t ten : Int} (hu : u ≠ 0) (fu : Fit u) (fd : Fit d) (bs : -1000000 ≤ s ∧ s ≤ 1000000) (bt : -1000000 ≤ t ∧ t ≤ 1000000) (bn : -1000000 ≤ ten ∧ ten ≤ 1000000) :
    Ev (fun k => frac_loose_form.f k u d s t ten) (enc u d (s + ten) (t + ten)) := by
  have l1 : lw s t ≤ s := by unfold lw; split <;> omega
  have l2 : lw s t ≤ t := by unfold lw; split <;> omega
  have l3 : -1000000 ≤ lw s t := by unfold lw; split <;> omega
  have w1 : wrap64 (s - lw s t) = s - lw s t := w64 (by omega) (by omega)
  have w2 : wrap64 (t - lw s t) = t - lw s t := w64 (by omega) (by omega)
  have w3 : wrap64 (ten + lw s t) = lw s t + ten := by rw [w64 (by omega) (by omega)]; omega
  obtain ⟨⟨n1, o1⟩, p1, f1, h1, g1⟩ := putN_ev 2 (Or.inl rfl) (s - lw s t).toNat u hu fu
  have tail : ∀ n2 o2, Ev (fun k => putN k 5 (t - lw s t).toNat n1 o1) (n2, o2) → Ev (fun k => frac_loose_form.f k u d s t ten) (if o2 = true ∧ -1000 ≤ lw s t + ten ∧ lw s t + ten ≤ 1000 then (n2, d, lw s t + ten, 0) else (0, 0, 0, 10)) := by
    intro n2 o2 p2
    refine Ev.congr (f := fun k => (putN k 2 (s - lw s t).toNat u true).bind fun a => (putN k 5 (t - lw s t).toNat a.1 a.2).bind fun b => some (if b.2 = true ∧ -1000 ≤ lw s t + ten ∧ lw s t + ten ≤ 1000 then (b.1, d, lw s t + ten, 0) else (0, 0, 0, 10))) (fun k => ?_) (p1.bind (p2.bind (Ev.now _)))
    unfold frac_loose_form.f
    rw [lw_mn, w1, w2, w3]
  have en : enc u d (s + ten) (t + ten) = if Fit (nm u s t) ∧ -1000 ≤ lw s t + ten ∧ lw s t + ten ≤ 1000 then (nm u s t, d, lw s t + ten, 0) else (0, 0, 0, 10) := by
    unfold enc
    rw [nm_ten, lw_ten]
    by_cases c : Fit (nm u s t) ∧ -1000 ≤ lw s t + ten ∧ lw s t + ten ≤ 1000
    · rw [if_pos ⟨c.1, fd, c.2⟩, if_pos c]
    · rw [if_neg (fun h => c ⟨h.1, h.2.2⟩), if_neg c]
  rw [en]
  by_cases c1 : Fit (u * 2 ^ (s - lw s t).toNat)
  · have e1 := h1 c1
    simp only [Prod.mk.injEq] at e1
    obtain ⟨rfl, rfl⟩ := e1
    obtain ⟨⟨n2, o2⟩, p2, f2, h2, g2⟩ := putN_ev 5 (Or.inr rfl) (t - lw s t).toNat (u * 2 ^ (s - lw s t).toNat) (Int.mul_ne_zero hu (Int.pow_ne_zero (by decide))) c1
    have q := tail n2 o2 p2
    by_cases c2 : Fit (nm u s t)
    · have e2 := h2 c2
      simp only [Prod.mk.injEq] at e2
      obtain ⟨rfl, rfl⟩ := e2
      have : (Fit (nm u s t) ∧ -1000 ≤ lw s t + ten ∧ lw s t + ten ≤ 1000) ↔ (True ∧ -1000 ≤ lw s t + ten ∧ lw s t + ten ≤ 1000) := by simp [c2]
      simp only [this, true_and]
      simp only [true_and] at q
      exact q
    · have e2 : o2 = false := g2 c2
      subst e2
      rw [if_neg (fun h => c2 h.1)]
      rw [if_neg (fun h => by simp at h)] at q
      exact q
  · have e1 : o1 = false := g1 c1
    subst e1
    have q := tail _ _ (putN_false 5 (Or.inr rfl) (t - lw s t).toNat n1 f1)
    rw [if_neg (fun h => by simp at h)] at q
    have c2 : ¬ Fit (nm u s t) := fun c => c1 (by
      rw [fit_iff] at c ⊢
      have := natAbs_le_mul (a := u * 2 ^ (s - lw s t).toNat) (b := 5 ^ (t - lw s t).toNat) (Int.pow_ne_zero (by decide))
      unfold nm at c
      omega)
    rw [if_neg (fun h => c2 h.1)]
    exact q
end Go.Proofs.YthfibffgmoblaaaDoor.Fr
