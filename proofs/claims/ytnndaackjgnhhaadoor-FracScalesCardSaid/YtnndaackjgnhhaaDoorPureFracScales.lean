/- FracScales' plain law: for any numbers the law's function answers true. Its conditions: none beyond the sizes that every row has. -/
import Derived.Test.YtnndaackjgnhhaaDoorPFracScalesx2
import Derived.Test.YtnndaackjgnhhaaDoorV1
namespace Go.Proofs.YtnndaackjgnhhaaDoor.Pure
open Go.RowKit Go.Proofs.YtnndaackjgnhhaaDoor.PFracScales Go.Proofs.YtnndaackjgnhhaaDoor.Fr Go.Proofs.YtnndaackjgnhhaaDoor.Wh Go.Proofs.YtnndaackjgnhhaaDoor.PB Go.Proofs.YtnndaackjgnhhaaDoor.PC Go.Proofs.YtnndaackjgnhhaaDoor.PD Go.Proofs.YtnndaackjgnhhaaDoorW.PrintWords Go.Proofs.YtnndaackjgnhhaaDoorW.PrintLast
theorem make_zero {a t : Int} (fa : Fit a) {r : R4} (h : MakeS a 0 t r) : r = (0, 0, 0, 11) :=
  h.unique (Or.inr (Or.inl ⟨fa, by decide, rfl, rfl⟩))
theorem make_num0 {b t : Int} (fb : Fit b) (hb : b ≠ 0) {r : R4} (h : MakeS 0 b t r) : r = (0, 1, 0, 0) :=
  h.unique (Or.inr (Or.inr (Or.inl ⟨by decide, fb, hb, rfl, rfl⟩)))
theorem make_enc {a b t : Int} (fa : Fit a) (ha : a ≠ 0) (fb : Fit b) (hb : b ≠ 0) {r : R4} (h : MakeS a b t r) : Enc ((a : Rat) / b * (10 : Rat) ^ t) r := by
  rcases h with ⟨h, _⟩ | ⟨_, _, h, _⟩ | ⟨_, _, _, h, _⟩ | ⟨_, _, _, _, h⟩
  · exact absurd ⟨fa, fb⟩ h
  · exact absurd h hb
  · exact absurd h ha
  · exact h
theorem FracScales : drachmlaw02_FracScales.Pure := by
  intro x y ten by' h1 h2 h3 h4
  have i1 := i64_of h1
  have i2 := i64_of h2
  unfold I64 at i1 i2
  obtain ⟨a, ha⟩ : ∃ a, x / 8589934592 = a := ⟨_, rfl⟩
  obtain ⟨b, hb⟩ : ∃ b, y / 8589934592 = b := ⟨_, rfl⟩
  have ba : -1073741824 ≤ a ∧ a ≤ 1073741823 := by omega
  have bb : -1073741824 ≤ b ∧ b ≤ 1073741823 := by omega
  obtain ⟨t, ht⟩ : ∃ t, Int.tmod ten 901 = t := ⟨_, rfl⟩
  have bt : -901 < t ∧ t < 901 := by
    have p := Int.tmod_lt_of_pos ten (show (0 : Int) < 901 by decide)
    have q := Int.lt_tmod_of_pos ten (show (0 : Int) < 901 by decide)
    omega
  obtain ⟨k, hk, k1, k2⟩ : ∃ k, wrap64 (1 + Int.tmod (wrap64 (Int.tmod by' 1000 + 1000)) 1000) = k ∧ 1 ≤ k ∧ k ≤ 1000 := by
    have p := Int.tmod_lt_of_pos by' (show (0 : Int) < 1000 by decide)
    have q := Int.lt_tmod_of_pos by' (show (0 : Int) < 1000 by decide)
    rw [w64 (x := Int.tmod by' 1000 + 1000) (by omega) (by omega)]
    generalize Int.tmod by' 1000 = m at *
    have p2 := Int.tmod_lt_of_pos (m + 1000) (show (0 : Int) < 1000 by decide)
    have q2 := Int.tmod_nonneg 1000 (show 0 ≤ m + 1000 by omega)
    rw [w64 (by omega) (by omega)]
    exact ⟨_, rfl, by omega, by omega⟩
  have mk : ∀ z : Int, -1073741824 ≤ z ∧ z ≤ 1073741823 → -1073741824000 ≤ z * k ∧ z * k ≤ 1073741824000 := fun z hz => by
    rcases Int.le_total 0 z with g | g
    · have := Int.mul_le_mul_of_nonneg_left k2 g
      have := Int.mul_nonneg g (show 0 ≤ k by omega)
      omega
    · have := Int.mul_le_mul_of_nonneg_left k2 (show 0 ≤ -z by omega)
      have := Int.mul_nonneg (show 0 ≤ -z by omega) (show 0 ≤ k by omega)
      rw [Int.neg_mul] at *
      rw [Int.neg_mul] at *
      omega
  have mka := mk a ba
  have mkb := mk b bb
  have fit : ∀ z : Int, -100000000000000 ≤ z ∧ z ≤ 100000000000000 → Fit z := fun z h => by unfold Fit; omega
  have fa := fit a (by omega)
  have fb := fit b (by omega)
  have fak := fit (a * k) (by omega)
  have fbk := fit (b * k) (by omega)
  have f10 := fit (a * 10) (by omega)
  have fnb := fit (-b) (by omega)
  obtain ⟨r1, e1, s1⟩ := FMake_ev (ten := t) fa.i64 fb.i64
  obtain ⟨r2, e2, s2⟩ := FMake_ev (ten := t) fak.i64 fbk.i64
  obtain ⟨r3, e3, s3⟩ := FMake_ev (ten := t - 1) f10.i64 fb.i64
  obtain ⟨r4, e4, s4⟩ := FMake_ev (ten := t) fa.i64 fnb.i64
  obtain ⟨K0, a0⟩ := awake_ev
  obtain ⟨K1, a1⟩ := e1
  obtain ⟨K2, a2⟩ := e2
  obtain ⟨K3, a3⟩ := e3
  obtain ⟨K4, a4⟩ := e4
  refine ⟨K0 + K1 + K2 + K3 + K4, ?_⟩
  generalize hK : K0 + K1 + K2 + K3 + K4 = K
  have a0 := a0 K (by omega)
  have a1 := a1 K (by omega)
  have a2 := a2 K (by omega)
  have a3 := a3 K (by omega)
  have a4 := a4 K (by omega)
  simp only at a0 a1 a2 a3 a4
  unfold drachmlaw02_FracScales.f
  rw [ha, hb, ht, hk, w64 (x := a * k) (by omega) (by omega), w64 (x := b * k) (by omega) (by omega), w64 (x := a * 10) (by omega) (by omega), w64 (x := t - 1) (by omega) (by omega), w64 (x := -b) (by omega) (by omega)]
  rw [a0, bs_, a1, bs_, a2, bs_, a3, bs_, a4, bs_]
  by_cases b0 : b = 0
  · subst b0
    rw [Int.zero_mul] at s2
    rw [Int.neg_zero] at s4
    rw [make_zero fa s1, make_zero fak s2, make_zero f10 s3, make_zero fa s4, if_pos rfl]
    rfl
  · rw [if_neg b0, if_pos rfl]
    have bk0 : b * k ≠ 0 := Int.mul_ne_zero b0 (by omega)
    by_cases a00 : a = 0
    · subst a00
      rw [Int.zero_mul] at s2 s3
      rw [make_num0 fb b0 s1, make_num0 fbk bk0 s2, make_num0 fb b0 s3, make_num0 fnb (by omega) s4]
      decide +kernel
    · have c1 := make_enc fa a00 fb b0 s1
      have c2 := make_enc fak (Int.mul_ne_zero a00 (by omega)) fbk bk0 s2
      have c3 := make_enc f10 (Int.mul_ne_zero a00 (by omega)) fb b0 s3
      have c4 := make_enc fa a00 fnb (by omega) s4
      have nb := cast_ne b0
      have nk := cast_ne (show k ≠ 0 by omega)
      have v2 : ((a * k : Int) : Rat) / ((b * k : Int) : Rat) * (10 : Rat) ^ t = (a : Rat) / b * (10 : Rat) ^ t := by
        rw [Rat.intCast_mul, Rat.intCast_mul]; grind
      have v3 : ((a * 10 : Int) : Rat) / (b : Rat) * (10 : Rat) ^ (t - 1) = (a : Rat) / b * (10 : Rat) ^ t := by
        have : (10 : Rat) ^ t = (10 : Rat) ^ (t - 1) * 10 := by
          rw [← Rat.zpow_add_one (by decide)]; congr 1; omega
        rw [Rat.intCast_mul, this, Rat.intCast_ofNat]; grind
      have v4 : (a : Rat) / ((-b : Int) : Rat) * (10 : Rat) ^ t = -((a : Rat) / b * (10 : Rat) ^ t) := by
        rw [Rat.intCast_neg]; grind
      rw [v2] at c2
      rw [v3] at c3
      rw [v4] at c4
      have q2 := (Enc.unique c2 c1).symm
      have q3 := (Enc.unique c3 c1).symm
      have q4 := Enc.unique c4 c1.neg
      subst q2 q3 q4
      have o := c1.out
      have oi := o.i1
      unfold I64 at oi
      have fr : Fit r1.1 := by
        rcases c1.err with z | z
        · obtain ⟨n, d, tt, er⟩ := r1
          simp only at z
          subst z
          exact c1.right.1.fn
        · rw [z]; decide
      unfold Fit at fr
      simp only [eq3, if_true]
      rw [Int.neg_neg, w64 (x := r1.1) (by omega) (by omega), eq3]
      rcases c1.err with z | z
      · rw [if_pos z]
      · rw [z]; rfl
end Go.Proofs.YtnndaackjgnhhaaDoor.Pure
