/- WholeProducts' plain law: for any two numbers the law's function answers true. Its conditions: none. -/
import Derived.Test.YtbfajaeghiodnaaPWholeProductsx1
import Derived.Test.YtbfajaeghiodnaaV4
namespace Go.Proofs.Ytbfajaeghiodnaa.Pure
open Go.RowKit Go.Proofs.Ytbfajaeghiodnaa.PWholeProducts Go.Proofs.YtbfajaeghiodnaaW.PrintWords Go.Proofs.YtbfajaeghiodnaaW.PrintLast Go.Proofs.YtbfajaeghiodnaaW.PrintMore

theorem bad_ev (a b : Int) (ha : I64 a) (hb : I64 b) (h : b = 0 ∨ a < -9223372036854775807 ∨ b < -9223372036854775807) : Ev (fun k => drachmlaw01_WholeProducts.j0 k a b true true) true := by
  refine Ev.step (f := fun k => (PBase.whole_Mul.f k a b).bind fun bt102 => (if bt102.2 = true then (some true) else (if b = 0 then (some (decide (a < (-9223372036854775807)))) else (some true)))) (fun k => ?_) ((Mul_ev a b ha hb).bind (Ev.congr (f := fun _ => some true) (fun k => ?_) (Ev.now _)))
  · simp only [drachmlaw01_WholeProducts.j0]
    rw [if_pos trivial]
    simp only [if_true]
  · by_cases h1 : (mulF a b).2 = true
    · rw [if_pos h1]
    · rw [if_neg h1]
      by_cases h2 : b = 0
      · rw [if_pos h2]
        subst h2
        have : a < -9223372036854775807 := by
          by_cases g : -9223372036854775807 ≤ a
          · exact absurd (by unfold mulF; rw [Int.mul_zero, if_pos (by omega)]) h1
          · omega
        rw [decide_eq_true this]
      · rw [if_neg h2]
theorem good_ev (a b : Int) (ha : I64 a) (hb : I64 b) (h : ¬ (b = 0 ∨ a < -9223372036854775807 ∨ b < -9223372036854775807)) : Ev (fun k => drachmlaw01_WholeProducts.j0 k a b true false) true := by
  have hs := abs_cases a b
  have hpos := abs_mul_le a b ha hb
  have hq := abs_div b a (by omega)
  have hd : 0 ≤ 9223372036854775807 / (b.natAbs : Int) ∧ 9223372036854775807 / (b.natAbs : Int) ≤ 9223372036854775807 := ⟨Int.ediv_nonneg (by decide) (by omega), Int.ediv_le_self _ (by decide)⟩
  rw [Int.mul_comm] at hq
  have hm := Mul_ev a b ha hb
  obtain ⟨a1, a2⟩ := ha
  obtain ⟨b1, b2⟩ := hb
  have step : ∀ p : Int × Bool, (mulF a b = p) → (∀ k, PBase.whole_Mul.f k a b = some p → drachmlaw01_WholeProducts.j0 (k + 1) a b true false = some true) → Ev (fun k => drachmlaw01_WholeProducts.j0 k a b true false) true := by
    intro p hp hj
    rw [hp] at hm
    obtain ⟨K, hK⟩ := hm
    refine ⟨K + 1, fun k hk => ?_⟩
    obtain ⟨k, rfl⟩ : ∃ m, k = m + 1 := ⟨k - 1, by omega⟩
    exact hj k (hK k (by omega))
  by_cases g : -9223372036854775807 ≤ a ∧ -9223372036854775807 ≤ b ∧ -9223372036854775807 ≤ a * b ∧ a * b ≤ 9223372036854775807
  · refine step (a * b, true) (if_pos g) (fun k hk => ?_)
    simp only [drachmlaw01_WholeProducts.j0]
    rw [if_neg (by decide), hk, bs_, if_pos rfl, if_pos trivial, if_neg (by omega), Int.mul_tdiv_cancel _ (by omega), w64 a1 a2, if_pos rfl, Int.mul_tmod_left]
    rfl
  · refine step (0, false) (if_neg g) (fun k hk => ?_)
    have hgt : (a.natAbs : Int) > 9223372036854775807 / (b.natAbs : Int) := by
      refine hq.2 ?_
      generalize (a.natAbs : Int) * (b.natAbs : Int) = p at *
      omega
    simp only [drachmlaw01_WholeProducts.j0]
    rw [if_neg (by decide), hk, bs_, if_neg (by decide)]
    by_cases g1 : a < 0 <;> by_cases g2 : b < 0
    · rw [if_pos g1, if_pos g2, if_pos trivial, if_pos rfl, w64 (x := -b) (by omega) (by omega), if_neg (by omega), w64 (x := -a) (by omega) (by omega), Int.tdiv_eq_ediv_of_nonneg (by decide), show -b = (b.natAbs : Int) by omega, w64 (by omega) (by omega), decide_eq_true (by omega)]
    · rw [if_pos g1, if_neg g2, if_pos trivial, if_pos rfl, if_neg (by omega), w64 (x := -a) (by omega) (by omega), Int.tdiv_eq_ediv_of_nonneg (by decide)]
      have e : (b.natAbs : Int) = b := by omega
      rw [e] at hgt hd
      rw [w64 (by omega) (by omega), decide_eq_true (by omega)]
    · rw [if_neg g1, if_pos g2, if_pos trivial, if_pos rfl, w64 (x := -b) (by omega) (by omega), if_neg (by omega), Int.tdiv_eq_ediv_of_nonneg (by decide), show -b = (b.natAbs : Int) by omega, w64 (by omega) (by omega), decide_eq_true (by omega)]
    · rw [if_neg g1, if_neg g2, if_pos trivial, if_pos rfl, if_neg (by omega), Int.tdiv_eq_ediv_of_nonneg (by decide)]
      have e : (b.natAbs : Int) = b := by omega
      rw [e] at hgt hd
      rw [w64 (by omega) (by omega), decide_eq_true (by omega)]
theorem WholeProducts : drachmlaw01_WholeProducts.Pure := by
  intro a b ha hb
  have ha := i64_of ha
  have hb := i64_of hb
  refine Ev.rounds (r := true) (g := fun k => drachmlaw01_WholeProducts.f k a b) ?_
  by_cases h : b = 0 ∨ a < -9223372036854775807 ∨ b < -9223372036854775807
  · refine Ev.congr (fun k => rfl) (awake_ev.bind (Ev.congr (fun k => ?_) (bad_ev a b ha hb h)))
    by_cases h1 : b = 0
    · rw [if_pos h1]
    · rw [if_neg h1]
      by_cases h2 : a < -9223372036854775807
      · rw [if_pos h2]
      · rw [if_neg h2, decide_eq_true (by omega)]
  · refine Ev.congr (fun k => rfl) (awake_ev.bind (Ev.congr (fun k => ?_) (good_ev a b ha hb h)))
    rw [if_neg (by omega), if_neg (by omega), decide_eq_false (by omega)]
end Go.Proofs.Ytbfajaeghiodnaa.Pure
