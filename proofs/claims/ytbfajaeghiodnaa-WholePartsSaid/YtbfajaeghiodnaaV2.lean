/- Plain closed forms of products, divisors and what is split. Conditions: the arguments are 64-bit numbers. -/
import Derived.Test.YtbfajaeghiodnaaV1
namespace Go.Proofs.Ytbfajaeghiodnaa
open Go.RowKit Go.Proofs.YtbfajaeghiodnaaW.PrintWords Go.Proofs.YtbfajaeghiodnaaW.PrintLast Go.Proofs.YtbfajaeghiodnaaW.PrintMore

theorem u64w (n : Int) : IntKind.u64.wrap n = n % 18446744073709551616 := IntKind.wrap_u64 n
theorem u64in {n : Int} (h0 : 0 ≤ n) (h1 : n < 18446744073709551616) : IntKind.u64.wrap n = n := by rw [u64w]; omega
theorem mask32 (a : Int) (h0 : 0 ≤ a) (h1 : a < 18446744073709551616) : Go.bits .and .u64 a 4294967295 = a % 4294967296 := by
  rw [u64_and a 4294967295 h0 h1 (by omega) (by omega)]
  obtain ⟨A, rfl⟩ := Int.eq_ofNat_of_zero_le h0
  have h := Nat.and_two_pow_sub_one_eq_mod A 32
  rw [Int.toNat_natCast, show (4294967295 : Int).toNat = 2 ^ 32 - 1 from rfl, h]
  omega
/-- The product's parts. -/
theorem parts (x1 x0 y1 y0 : Int) : (4294967296 * x1 + x0) * (4294967296 * y1 + y0) = (x1 * y1) * 18446744073709551616 + (x1 * y0 + x0 * y1) * 4294967296 + x0 * y0 := by grind
theorem part_le {x y : Int} (hx : 0 ≤ x) (hx2 : x ≤ 4294967295) (hy : 0 ≤ y) (hy2 : y ≤ 4294967295) : 0 ≤ x * y ∧ x * y ≤ 18446744065119617025 :=
  ⟨Int.mul_nonneg hx hy, by have := Int.mul_le_mul hx2 hy2 hy (by decide); omega⟩
theorem hi_lo (p11 p10 p01 p00 : Int) :
    p11 + (p10 + p00 / 4294967296) / 4294967296 + ((p10 + p00 / 4294967296) % 4294967296 + p01) / 4294967296 = (p11 * 18446744073709551616 + (p10 + p01) * 4294967296 + p00) / 18446744073709551616 := by
  omega
theorem Mul64_eq (a b : Int) (ha : 0 ≤ a) (ha2 : a < 18446744073709551616) (hb : 0 ≤ b) (hb2 : b < 18446744073709551616) : PBase.bits_Mul64.f a b = some ((a * b) / 18446744073709551616, (a * b) % 18446744073709551616) := by
  unfold PBase.bits_Mul64.f
  have hx := part_le (x := a / 4294967296) (y := b / 4294967296) (by omega) (by omega) (by omega) (by omega)
  have hy := part_le (x := a / 4294967296) (y := b % 4294967296) (by omega) (by omega) (by omega) (by omega)
  have hz := part_le (x := a % 4294967296) (y := b / 4294967296) (by omega) (by omega) (by omega) (by omega)
  have hw := part_le (x := a % 4294967296) (y := b % 4294967296) (by omega) (by omega) (by omega) (by omega)
  have hab : a * b ≤ 340282366920938463426481119284349108225 := by
    have := Int.mul_le_mul (show a ≤ 18446744073709551615 by omega) (show b ≤ 18446744073709551615 by omega) hb (by decide)
    omega
  have hp := parts (a / 4294967296) (a % 4294967296) (b / 4294967296) (b % 4294967296)
  rw [Int.mul_ediv_add_emod, Int.mul_ediv_add_emod] at hp
  rw [hp] at hab
  rw [mask32 a ha ha2, mask32 b hb hb2]
  have hlo : IntKind.u64.wrap (a * b) = (a * b) % 18446744073709551616 := u64w _
  rw [hlo]
  clear hlo
  have key := hi_lo (a / 4294967296 * (b / 4294967296)) (a / 4294967296 * (b % 4294967296)) (a % 4294967296 * (b / 4294967296)) (a % 4294967296 * (b % 4294967296))
  have hbd := hab
  rw [← hp] at key
  rw [← key]
  clear key hp hab
  generalize a / 4294967296 * (b / 4294967296) = p11 at *
  generalize a / 4294967296 * (b % 4294967296) = p10 at *
  generalize a % 4294967296 * (b / 4294967296) = p01 at *
  generalize a % 4294967296 * (b % 4294967296) = p00 at *
  rw [u64in (n := p11) (by omega) (by omega), u64in (n := p10) (by omega) (by omega), u64in (n := p01) (by omega) (by omega), u64in (n := p00) (by omega) (by omega)]
  rw [u64in (n := p10 + p00 / 4294967296) (by omega) (by omega), mask32 (p10 + p00 / 4294967296) (by omega) (by omega)]
  rw [u64in (n := (p10 + p00 / 4294967296) % 4294967296 + p01) (by omega) (by omega), u64in (n := p11 + (p10 + p00 / 4294967296) / 4294967296) (by omega) (by omega)]
  rw [u64in (n := p11 + (p10 + p00 / 4294967296) / 4294967296 + ((p10 + p00 / 4294967296) % 4294967296 + p01) / 4294967296) (by omega) (by have := hi_lo p11 p10 p01 p00; omega)]
/-! Products. -/
def mulF (a b : Int) : Int × Bool := if -9223372036854775807 ≤ a ∧ -9223372036854775807 ≤ b ∧ -9223372036854775807 ≤ a * b ∧ a * b ≤ 9223372036854775807 then (a * b, true) else (0, false)
theorem size_eq (a : Int) (ha : -9223372036854775807 ≤ a) (ha2 : a ≤ 9223372036854775807) : PBase.whole_size.f a = some (a.natAbs : Int) := by
  unfold PBase.whole_size.f
  by_cases h : a < 0
  · rw [if_pos h, w64 (by omega) (by omega), u64in (by omega) (by omega)]; congr 1; omega
  · rw [if_neg h, u64in (by omega) (by omega)]; congr 1; omega
theorem refsize_eq (a : Int) (ha : -9223372036854775807 ≤ a) (ha2 : a ≤ 9223372036854775807) : PBase.drachmref01_size.f a = some (a.natAbs : Int) := by
  unfold PBase.drachmref01_size.f
  by_cases h : a < 0
  · rw [if_pos h, w64 (by omega) (by omega)]; congr 1; omega
  · rw [if_neg h]; congr 1; omega
theorem abs_cases (a b : Int) : ((a < 0 ↔ b < 0) ∧ ((a.natAbs : Int) * (b.natAbs : Int)) = a * b) ∨ (¬ (a < 0 ↔ b < 0) ∧ ((a.natAbs : Int) * (b.natAbs : Int)) = -(a * b)) := by
  by_cases h1 : a < 0 <;> by_cases h2 : b < 0
  · left; refine ⟨by simp [h1, h2], ?_⟩; rw [show (a.natAbs : Int) = -a by omega, show (b.natAbs : Int) = -b by omega, Int.neg_mul_neg]
  · right; refine ⟨by simp [h1, h2], ?_⟩; rw [show (a.natAbs : Int) = -a by omega, show (b.natAbs : Int) = b by omega, Int.neg_mul]
  · right; refine ⟨by simp [h1, h2], ?_⟩; rw [show (a.natAbs : Int) = a by omega, show (b.natAbs : Int) = -b by omega, Int.mul_neg]
  · left; refine ⟨by simp [h1, h2], ?_⟩; rw [show (a.natAbs : Int) = a by omega, show (b.natAbs : Int) = b by omega]
theorem abs_mul_le (a b : Int) (ha : I64 a) (hb : I64 b) : 0 ≤ (a.natAbs : Int) * (b.natAbs : Int) ∧ (a.natAbs : Int) * (b.natAbs : Int) ≤ 85070591730234615865843651857942052864 := by
  obtain ⟨a1, a2⟩ := ha
  obtain ⟨b1, b2⟩ := hb
  refine ⟨Int.mul_nonneg (by omega) (by omega), ?_⟩
  have := Int.mul_le_mul (show (a.natAbs : Int) ≤ 9223372036854775808 by omega) (show (b.natAbs : Int) ≤ 9223372036854775808 by omega) (by omega) (by decide)
  omega
def mulTail (k : Nat) (a b p : Int) : Option (Int × Bool) :=
  if p / 18446744073709551616 > 0 then (PBase.whole_Mul.j0 k a b (p % 18446744073709551616) true) else (PBase.whole_Mul.j0 k a b (p % 18446744073709551616) (decide (p % 18446744073709551616 > 9223372036854775807)))
theorem Mul_ev (a b : Int) (ha : I64 a) (hb : I64 b) : Ev (fun k => PBase.whole_Mul.f k a b) (mulF a b) := by
  have hm := abs_mul_le a b ha hb
  obtain ⟨a1, a2⟩ := ha
  obtain ⟨b1, b2⟩ := hb
  have hf := fit_ev [a, b] (by simp)
  have hall : ([a, b].all fits = true) ↔ (-9223372036854775807 ≤ a ∧ -9223372036854775807 ≤ b) := by simp [fits]
  by_cases h : -9223372036854775807 ≤ a ∧ -9223372036854775807 ≤ b
  · rw [hall.2 h] at hf
    have hs := abs_cases a b
    have hk : ∀ k, ((PBase.whole_size.f a).bind fun t111 => ((PBase.whole_size.f b).bind fun t112 => ((PBase.bits_Mul64.f t111 t112).bind fun bt113 => (if bt113.1 > 0 then (PBase.whole_Mul.j0 k a b bt113.2 true) else (PBase.whole_Mul.j0 k a b bt113.2 (decide (bt113.2 > 9223372036854775807))))))) =
        mulTail k a b ((a.natAbs : Int) * (b.natAbs : Int)) := by
      intro k
      rw [size_eq a h.1 a2, bs_, size_eq b h.2 b2, bs_, Mul64_eq _ _ (by omega) (by omega) (by omega) (by omega), bs_]
      rfl
    refine Ev.congr (fun k => rfl) (hf.bind (Ev.congr (f := fun k => mulTail k a b ((a.natAbs : Int) * (b.natAbs : Int))) (fun k => by rw [if_pos rfl]; exact hk k) ?_))
    clear hk
    unfold mulTail
    generalize (a.natAbs : Int) * (b.natAbs : Int) = p at *
    unfold mulF
    by_cases hp : p ≤ 9223372036854775807
    · have hy : -9223372036854775807 ≤ a ∧ -9223372036854775807 ≤ b ∧ -9223372036854775807 ≤ a * b ∧ a * b ≤ 9223372036854775807 := by omega
      rw [if_pos hy]
      refine Ev.congr (f := fun k => PBase.whole_Mul.j0 k a b p false) (fun k => ?_) (Ev.step (f := fun _ => some (a * b, true)) (fun k => ?_) (Ev.now _))
      · rw [if_neg (by omega), show p % 18446744073709551616 = p by omega, decide_eq_false (by omega)]
      · simp only [PBase.whole_Mul.j0]
        rw [if_neg (by decide), w64 (x := p) (by omega) (by omega)]
        by_cases g : (a < 0 ↔ b < 0)
        · have hg : (decide (a < 0) != decide (b < 0)) = false := by rw [bne_eq_false_iff_eq, decide_eq_decide]; exact g
          rw [hg, if_neg (by decide), show p = a * b by omega]
        · have hg : (decide (a < 0) != decide (b < 0)) = true := by rw [bne_iff_ne, ne_eq, decide_eq_decide]; exact g
          rw [if_pos hg, w64 (by omega) (by omega), show -p = a * b by omega]
    · rw [if_neg (by omega)]
      refine Ev.congr (f := fun k => PBase.whole_Mul.j0 k a b (p % 18446744073709551616) true) (fun k => ?_) (Ev.step (f := fun _ => some (0, false)) (fun k => ?_) (Ev.now _))
      · by_cases g : p / 18446744073709551616 > 0
        · rw [if_pos g]
        · rw [if_neg g, decide_eq_true (by omega)]
      · simp only [PBase.whole_Mul.j0]
        rw [if_pos trivial]
  · have hfa : [a, b].all fits = false := by
      cases e : [a, b].all fits
      · rfl
      · exact absurd (hall.1 e) h
    rw [hfa] at hf
    refine Ev.congr (fun k => rfl) (hf.bind (Ev.congr (f := fun _ => some (mulF a b)) (fun k => ?_) (Ev.now _)))
    rw [if_neg (by decide)]
    unfold mulF
    rw [if_neg (by omega)]
theorem abs_div (a b : Int) (h : a ≠ 0) : (b.natAbs : Int) > 9223372036854775807 / (a.natAbs : Int) ↔ (a.natAbs : Int) * (b.natAbs : Int) > 9223372036854775807 := by
  have h0 : 0 < (a.natAbs : Int) := by omega
  have := Int.ediv_lt_iff_lt_mul (a := 9223372036854775807) (b := (b.natAbs : Int)) h0
  rw [Int.mul_comm]
  omega
theorem refMul_ev (a b : Int) (ha : I64 a) (hb : I64 b) : Ev (fun k => PBase.drachmref01_Mul.f k a b) (mulF a b) := by
  have hm := abs_mul_le a b ha hb
  have hs := abs_cases a b
  obtain ⟨a1, a2⟩ := ha
  obtain ⟨b1, b2⟩ := hb
  by_cases h : -9223372036854775807 ≤ a ∧ -9223372036854775807 ≤ b
  · refine Ev.congr (f := fun k => PBase.drachmref01_Mul.j0 k a b false) (fun k => ?_) (Ev.step (f := fun _ => some (mulF a b)) (fun k => ?_) (Ev.now _))
    · unfold PBase.drachmref01_Mul.f
      rw [refFits_eq, bs_, refFits_eq, bs_]
      unfold fits
      rw [decide_eq_true h.1, decide_eq_true h.2, if_pos rfl]
      rfl
    · simp only [PBase.drachmref01_Mul.j0]
      rw [if_neg (by decide)]
      by_cases h0 : a = 0
      · subst h0
        rw [if_pos rfl, Int.zero_mul]
        unfold mulF
        rw [Int.zero_mul, if_pos (by omega), w64 (by omega) (by omega)]
      · rw [if_neg h0, refsize_eq b h.2 b2, bs_, refsize_eq a h.1 a2, bs_, if_neg (by omega), Int.tdiv_eq_ediv_of_nonneg (by decide)]
        have hd : 0 ≤ 9223372036854775807 / (a.natAbs : Int) ∧ 9223372036854775807 / (a.natAbs : Int) ≤ 9223372036854775807 := ⟨Int.ediv_nonneg (by decide) (by omega), Int.ediv_le_self _ (by decide)⟩
        rw [w64 (by omega) (by omega)]
        have hq := abs_div a b h0
        unfold mulF
        generalize (a.natAbs : Int) * (b.natAbs : Int) = p at *
        by_cases g : (b.natAbs : Int) > 9223372036854775807 / (a.natAbs : Int)
        · have := hq.1 g
          rw [if_pos g, if_neg (by omega)]
        · have : ¬ p > 9223372036854775807 := fun e => g (hq.2 e)
          rw [if_neg g, if_pos (by omega), w64 (by omega) (by omega)]
  · have hz : mulF a b = (0, false) := by unfold mulF; rw [if_neg (by omega)]
    rw [hz]
    refine Ev.congr (f := fun k => PBase.drachmref01_Mul.j0 k a b true) (fun k => ?_) (Ev.step (f := fun _ => some (0, false)) (fun k => ?_) (Ev.now _))
    · unfold PBase.drachmref01_Mul.f
      rw [refFits_eq, bs_, refFits_eq, bs_]
      unfold fits
      by_cases h1 : -9223372036854775807 ≤ a
      · rw [decide_eq_true h1, decide_eq_false (show ¬ -9223372036854775807 ≤ b by omega), if_pos rfl]
        rfl
      · rw [decide_eq_false h1, if_neg (by decide)]
    · simp only [PBase.drachmref01_Mul.j0]
      rw [if_pos trivial]
end Go.Proofs.Ytbfajaeghiodnaa
