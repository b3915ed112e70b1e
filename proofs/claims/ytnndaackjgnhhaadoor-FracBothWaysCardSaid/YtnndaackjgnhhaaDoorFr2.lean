/- How a number's form is written as a frac (numerator, denominator, power of ten), and that this is the only way. Conditions stand in each theorem. -/
import Derived.Test.YtnndaackjgnhhaaDoorFr1
namespace Go.Proofs.YtnndaackjgnhhaaDoor.Fr
set_option linter.unusedVariables false
def lw (s t : Int) : Int := if t < s then t else s
def Fit (x : Int) : Prop := -9223372036854775807 ≤ x ∧ x ≤ 9223372036854775807
instance (x : Int) : Decidable (Fit x) := by unfold Fit; infer_instance
def nm (u s t : Int) : Int := u * 2 ^ (s - lw s t).toNat * 5 ^ (t - lw s t).toNat
def enc (u d s t : Int) : Int × Int × Int × Int := if Fit (nm u s t) ∧ Fit d ∧ -1000 ≤ lw s t ∧ lw s t ≤ 1000 then (nm u s t, d, lw s t, 0) else (0, 0, 0, 10)
def Enc (v : Rat) (r : Int × Int × Int × Int) : Prop := ∃ u d s t, NF u d s t ∧ ev u d s t = v ∧ r = enc u d s t
theorem Enc.unique {v : Rat} {r r' : Int × Int × Int × Int} (h : Enc v r) (h' : Enc v r') : r = r' := by
  obtain ⟨u, d, s, t, n, e, rfl⟩ := h
  obtain ⟨u', d', s', t', n', e', rfl⟩ := h'
  obtain ⟨rfl, rfl, rfl, rfl⟩ := nf_unique n n' (e.trans e'.symm)
  rfl
theorem Enc.err {v : Rat} {r : Int × Int × Int × Int} (h : Enc v r) : r.2.2.2 = 0 ∨ r = (0, 0, 0, 10) := by
  obtain ⟨u, d, s, t, n, e, rfl⟩ := h
  unfold enc; split
  · exact Or.inl rfl
  · exact Or.inr rfl
structure RightP (n d t : Int) : Prop where
  nz : n ≠ 0
  fn : Fit n
  fd : Fit d
  pos : 0 < d
  d2 : ¬ 2 ∣ d
  d5 : ¬ 5 ∣ d
  n10 : ¬ 10 ∣ n
  co : Nat.Coprime n.natAbs d.natAbs
  lo : -1000 ≤ t
  hi : t ≤ 1000
def val (n d t : Int) : Rat := (n : Rat) / (d : Rat) * (10 : Rat) ^ t
theorem strip (b : Int) (hb : 2 ≤ b) : ∀ (m : Nat) (n : Int), n ≠ 0 → n.natAbs ≤ m → ∃ (j : Nat) (r : Int), n = r * b ^ j ∧ ¬ b ∣ r
  | 0, n, h, hm => by omega
  | m + 1, n, h, hm => by
    by_cases hd : b ∣ n
    · obtain ⟨q, rfl⟩ := hd
      have hq : q ≠ 0 := fun e => h (by rw [e, Int.mul_zero])
      have hlt : q.natAbs ≤ m := by
        rw [Int.natAbs_mul] at hm
        have : 2 * q.natAbs ≤ b.natAbs * q.natAbs := Nat.mul_le_mul_right _ (by omega)
        omega
      obtain ⟨j, r, e, hr⟩ := strip b hb m q hq hlt
      exact ⟨j + 1, r, by rw [Int.pow_succ, e]; grind, hr⟩
    · exact ⟨0, n, by simp, hd⟩
theorem decomp (n : Int) (h : n ≠ 0) : ∃ (u : Int) (a b : Nat), n = u * 2 ^ a * 5 ^ b ∧ Ct u := by
  obtain ⟨b, r, e, hr⟩ := strip 5 (by decide) n.natAbs n h (Nat.le_refl _)
  have hr0 : r ≠ 0 := fun z => h (by rw [e, z, Int.zero_mul])
  obtain ⟨a, u, e2, hu⟩ := strip 2 (by decide) r.natAbs r hr0 (Nat.le_refl _)
  refine ⟨u, a, b, by rw [e, e2], Ct.of hu fun h5 => hr ?_⟩
  rw [e2]
  obtain ⟨q, rfl⟩ := h5
  exact ⟨q * 2 ^ a, by grind⟩
theorem ev_val (u d s t : Int) : ev u d s t = val (nm u s t) d (lw s t) := by
  have e : ev u d s t = ev u d (((s - lw s t).toNat : Int) + lw s t) (((t - lw s t).toNat : Int) + lw s t) := by
    have h1 : lw s t ≤ s := by unfold lw; split <;> omega
    have h2 : lw s t ≤ t := by unfold lw; split <;> omega
    congr 1 <;> omega
  rw [e, ev_ten]
  unfold val nm ev
  rw [Rat.zpow_natCast, Rat.zpow_natCast]
  simp only [Rat.intCast_mul, Rat.intCast_pow, Rat.intCast_ofNat]
  congr 1
  rw [Rat.div_def, Rat.div_def]
  grind
theorem odd_pow5 {u : Int} (h : Ct u) (b : Nat) : ¬ (2 ∣ u * 5 ^ b) := fun h2 => by
  have h5 : Nat.Coprime 2 ((5 : Int) ^ b).natAbs := by rw [Int.natAbs_pow]; exact Nat.Coprime.pow_right b (by decide)
  have h2' : (2 : Nat) ∣ u.natAbs * ((5 : Int) ^ b).natAbs := by rw [← Int.natAbs_mul]; exact Int.natAbs_dvd_natAbs.2 h2
  exact h.two (by have := Nat.Coprime.dvd_of_dvd_mul_right h5 h2'; omega)
theorem odd_pow2 {u : Int} (h : Ct u) (b : Nat) : ¬ (5 ∣ u * 2 ^ b) := fun h2 => by
  have h5 : Nat.Coprime 5 ((2 : Int) ^ b).natAbs := by rw [Int.natAbs_pow]; exact Nat.Coprime.pow_right b (by decide)
  have h2' : (5 : Nat) ∣ u.natAbs * ((2 : Int) ^ b).natAbs := by rw [← Int.natAbs_mul]; exact Int.natAbs_dvd_natAbs.2 h2
  exact h.five (by have := Nat.Coprime.dvd_of_dvd_mul_right h5 h2'; omega)
theorem Ct.co2 {d : Int} (h : Ct d) (a : Nat) : Nat.Coprime ((2 : Int) ^ a).natAbs d.natAbs := by
  rw [Int.natAbs_pow]
  exact Nat.Coprime.pow_left a (Nat.Coprime.coprime_dvd_right (show (2 : Int).natAbs ∣ 10 by decide) h).symm
theorem Ct.co5 {d : Int} (h : Ct d) (a : Nat) : Nat.Coprime ((5 : Int) ^ a).natAbs d.natAbs := by
  rw [Int.natAbs_pow]
  exact Nat.Coprime.pow_left a (Nat.Coprime.coprime_dvd_right (show (5 : Int).natAbs ∣ 10 by decide) h).symm
theorem nm_not10 {u : Int} (h : Ct u) (s t : Int) : ¬ 10 ∣ nm u s t := fun h10 => by
  have h2 : (2 : Int) ∣ nm u s t := Int.dvd_trans ⟨5, by decide⟩ h10
  have h5 : (5 : Int) ∣ nm u s t := Int.dvd_trans ⟨2, by decide⟩ h10
  unfold nm lw at h2 h5
  by_cases e : t < s
  · rw [if_pos e, Int.sub_self, Int.toNat_zero, Int.pow_zero, Int.mul_one] at h5
    exact odd_pow2 h _ h5
  · rw [if_neg e, Int.sub_self, Int.toNat_zero, Int.pow_zero, Int.mul_one] at h2
    exact odd_pow5 h _ h2
theorem nm_ne {u : Int} (h : Ct u) (s t : Int) : nm u s t ≠ 0 := fun e => nm_not10 h s t (e ▸ ⟨0, rfl⟩)
theorem nm_co {u d : Int} (hd : Ct d) (h : Nat.Coprime u.natAbs d.natAbs) (s t : Int) : Nat.Coprime (nm u s t).natAbs d.natAbs := by
  unfold nm
  rw [Int.natAbs_mul, Int.natAbs_mul]
  exact Nat.Coprime.mul_left (Nat.Coprime.mul_left h (hd.co2 _)) (hd.co5 _)
theorem right_of_enc {u d s t n d' l : Int} (x : NF u d s t) (e : enc u d s t = (n, d', l, 0)) : RightP n d' l ∧ val n d' l = ev u d s t := by
  unfold enc at e
  split at e
  · rename_i h
    simp only [Prod.mk.injEq] at e
    obtain ⟨rfl, rfl, rfl, _⟩ := e
    exact ⟨⟨nm_ne x.hu s t, h.1, h.2.1, x.pos, x.hd.two, x.hd.five, nm_not10 x.hu s t, nm_co x.hd x.co s t, h.2.2.1, h.2.2.2⟩, (ev_val u d s t).symm⟩
  · simp at e
theorem Enc.right {v : Rat} {n d l : Int} (h : Enc v (n, d, l, 0)) : RightP n d l ∧ val n d l = v := by
  obtain ⟨u, d', s, t, x, e, r⟩ := h
  have := right_of_enc x r.symm
  exact ⟨this.1, this.2.trans e⟩
theorem RightP.form {n d t : Int} (h : RightP n d t) : ∃ u s t', NF u d s t' ∧ ev u d s t' = val n d t ∧ enc u d s t' = (n, d, t, 0) ∧ (t = s ∨ t = t') ∧ t ≤ s ∧ t ≤ t' ∧ n = u * 2 ^ (s - t).toNat * 5 ^ (t' - t).toNat := by
  obtain ⟨u, a, b, e, hu⟩ := decomp n h.nz
  have hd : Ct d := Ct.of h.d2 h.d5
  have hab : a = 0 ∨ b = 0 := by
    rcases Nat.eq_zero_or_pos a with z | z
    · exact Or.inl z
    · rcases Nat.eq_zero_or_pos b with y | y
      · exact Or.inr y
      · exfalso
        refine h.n10 ?_
        obtain ⟨a', rfl⟩ : ∃ q, a = q + 1 := ⟨a - 1, by omega⟩
        obtain ⟨b', rfl⟩ : ∃ q, b = q + 1 := ⟨b - 1, by omega⟩
        rw [e, Int.pow_succ, Int.pow_succ]
        exact ⟨u * 2 ^ a' * 5 ^ b', by grind⟩
  have hlw : lw ((a : Int) + t) ((b : Int) + t) = t := by unfold lw; split <;> omega
  have hnm : nm u ((a : Int) + t) ((b : Int) + t) = n := by
    unfold nm
    rw [hlw, e, show ((a : Int) + t - t).toNat = a from by omega, show ((b : Int) + t - t).toNat = b from by omega]
  have nf : NF u d ((a : Int) + t) ((b : Int) + t) := by
    refine ⟨hu, hd, h.pos, ?_⟩
    have := h.co
    rw [e, Int.natAbs_mul, Int.natAbs_mul] at this
    exact (this.coprime_mul_right).coprime_mul_right
  refine ⟨u, (a : Int) + t, (b : Int) + t, nf, ?_, ?_, ?_, by omega, by omega, ?_⟩
  · rw [ev_val, hnm, hlw]
  · unfold enc
    rw [hnm, hlw, if_pos ⟨h.fn, h.fd, h.lo, h.hi⟩]
  · omega
  · rw [show ((a : Int) + t - t).toNat = a from by omega, show ((b : Int) + t - t).toNat = b from by omega]; exact e
theorem RightP.enc {n d t : Int} (h : RightP n d t) : Enc (val n d t) (n, d, t, 0) := by
  obtain ⟨u, s, t', nf, e, en, _⟩ := h.form
  exact ⟨u, d, s, t', nf, e, en.symm⟩
theorem RightP.inj {n d t n' d' t' : Int} (h : RightP n d t) (h' : RightP n' d' t') (e : val n d t = val n' d' t') : n = n' ∧ d = d' ∧ t = t' := by
  have := Enc.unique h.enc (e ▸ h'.enc)
  simp only [Prod.mk.injEq] at this
  exact ⟨this.1, this.2.1, this.2.2.1⟩
theorem RightP.ne {n d t : Int} (h : RightP n d t) : val n d t ≠ 0 := by
  obtain ⟨u, s, t', nf, e, _⟩ := h.form
  rw [← e]; exact ev_ne nf
theorem natAbs_le_mul {a b : Int} (hb : b ≠ 0) : a.natAbs ≤ (a * b).natAbs := by
  rw [Int.natAbs_mul]
  exact Nat.le_mul_of_pos_right _ (by omega)
theorem nm_ge (u s t : Int) : u.natAbs ≤ (nm u s t).natAbs := by
  unfold nm
  exact Nat.le_trans (natAbs_le_mul (Int.pow_ne_zero (by decide))) (natAbs_le_mul (Int.pow_ne_zero (by decide)))
theorem fit_iff (x : Int) : Fit x ↔ x.natAbs ≤ 9223372036854775807 := by unfold Fit; omega
theorem enc_over {u d s t : Int} (h : ¬ Fit u ∨ ¬ Fit d) : enc u d s t = (0, 0, 0, 10) := by
  unfold enc
  rw [if_neg]
  rintro ⟨h1, h2, _⟩
  rcases h with h | h
  · rw [fit_iff] at h h1; have := nm_ge u s t; omega
  · exact h h2
/-- a power that can be written: so can all before it -/
theorem enc_pow_le {u d s t : Int} (hu : u ≠ 0) (hd : 0 < d) {i j : Nat} (h : i ≤ j) (e : (enc (u ^ j) (d ^ j) (s * j) (t * j)).2.2.2 = 0) : (enc (u ^ i) (d ^ i) (s * i) (t * i)).2.2.2 = 0 := by
  unfold enc at e ⊢
  have hl : ∀ q : Nat, lw (s * q) (t * q) = lw s t * q := fun q => by
    unfold lw
    by_cases h : t < s
    · rw [if_pos h]
      by_cases z : q = 0
      · subst z; simp
      · rw [if_pos (Int.mul_lt_mul_of_pos_right h (by omega))]
    · rw [if_neg h]
      rw [if_neg (by have := Int.mul_le_mul_of_nonneg_right (show s ≤ t by omega) (show (0 : Int) ≤ q by omega); omega)]
  have hn : ∀ q : Nat, nm (u ^ q) (s * q) (t * q) = (nm u s t) ^ q := fun q => by
    have p1 : ∀ z : Int, 0 ≤ z → ∀ x : Int, x ^ (z * q).toNat = (x ^ z.toNat) ^ q := fun z hz x => by
      obtain ⟨m, rfl⟩ := Int.eq_ofNat_of_zero_le hz
      rw [← Int.natCast_mul, Int.toNat_natCast, Int.toNat_natCast, Int.pow_mul]
    have l1 : lw s t ≤ s := by unfold lw; split <;> omega
    have l2 : lw s t ≤ t := by unfold lw; split <;> omega
    unfold nm
    rw [hl, ← Int.sub_mul, ← Int.sub_mul, p1 _ (by omega), p1 _ (by omega), Int.mul_pow, Int.mul_pow]
  rw [hl, hn] at e ⊢
  split at e
  · rename_i hc
    obtain ⟨c1, c2, c3, c4⟩ := hc
    rw [if_pos]
    have hm : ∀ x : Int, x ≠ 0 → Fit (x ^ j) → Fit (x ^ i) := fun x hx hf => by
      rw [fit_iff] at hf ⊢
      rw [Int.natAbs_pow] at hf ⊢
      exact Nat.le_trans (Nat.pow_le_pow_right (by omega) h) hf
    have hne : nm u s t ≠ 0 := by
      unfold nm
      exact Int.mul_ne_zero (Int.mul_ne_zero hu (Int.pow_ne_zero (by decide))) (Int.pow_ne_zero (by decide))
    refine ⟨hm _ hne c1, hm _ (by omega) c2, ?_, ?_⟩
    · rcases Int.le_total 0 (lw s t) with g | g
      · have := Int.mul_nonneg g (show (0 : Int) ≤ i by omega); omega
      · have := Int.mul_le_mul_of_nonneg_left (show (i : Int) ≤ j by omega) (show 0 ≤ -lw s t by omega); rw [Int.neg_mul, Int.neg_mul] at this; omega
    · rcases Int.le_total 0 (lw s t) with g | g
      · have := Int.mul_le_mul_of_nonneg_left (show (i : Int) ≤ j by omega) g; omega
      · have := Int.mul_nonpos_of_nonpos_of_nonneg g (show (0 : Int) ≤ i by omega); omega
  · simp at e
end Go.Proofs.YtnndaackjgnhhaaDoor.Fr
