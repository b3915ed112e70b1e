/- WholeDivides' plain law: for any two numbers the law's function answers true. Its conditions: none. -/
import Derived.Test.YtbfajaeghiodnaaPWholeDividesx1
import Derived.Test.YtbfajaeghiodnaaV4
namespace Go.Proofs.Ytbfajaeghiodnaa.Pure
open Go.RowKit Go.Proofs.Ytbfajaeghiodnaa.PWholeDivides Go.Proofs.YtbfajaeghiodnaaW.PrintWords Go.Proofs.YtbfajaeghiodnaaW.PrintLast Go.Proofs.YtbfajaeghiodnaaW.PrintMore

theorem j2_ev (a b : Int) (ha : I64 a) (hb : I64 b) (h1 : -9223372036854775807 ≤ a) (h2 : -9223372036854775807 ≤ b) (h0 : ¬ (a = 0 ∧ b = 0)) : Ev (fun k => drachmlaw01_WholeDivides.j2 k a b true (Int.gcd a b : Int) false) true := by
  have hg := gcdF_le a b ha hb
  have e1 := Gcd_ev a 0 ha (by unfold I64; omega)
  have e3 := Gcd_ev b a hb ha
  rw [show gcdF a 0 = (a.natAbs : Int) by unfold gcdF; rw [if_pos (by omega), Int.gcd_zero_right]] at e1
  rw [show gcdF b a = (Int.gcd a b : Int) by unfold gcdF; rw [if_pos (by omega), Int.gcd_comm]] at e3
  rw [show gcdF a b = (Int.gcd a b : Int) by unfold gcdF; rw [if_pos (by omega)]] at hg
  obtain ⟨a1, a2⟩ := ha
  obtain ⟨b1, b2⟩ := hb
  have hpos : 0 < Int.gcd a b := by
    rcases Nat.eq_zero_or_pos (Int.gcd a b) with h | h
    · exact absurd (Int.gcd_eq_zero_iff.1 h) h0
    · exact h
  have da := Int.gcd_dvd_left a b
  have db := Int.gcd_dvd_right a b
  have ea : Int.tdiv a (Int.gcd a b : Int) = a / (Int.gcd a b : Int) := Int.tdiv_eq_ediv_of_dvd da
  have eb : Int.tdiv b (Int.gcd a b : Int) = b / (Int.gcd a b : Int) := Int.tdiv_eq_ediv_of_dvd db
  have ia : I64 (a / (Int.gcd a b : Int)) ∧ -9223372036854775807 ≤ a / (Int.gcd a b : Int) := by
    have := Int.ediv_mul_cancel da
    have h : (a / (Int.gcd a b : Int)).natAbs ≤ a.natAbs := by
      conv => rhs; rw [← this]
      rw [Int.natAbs_mul]
      exact Nat.le_mul_of_pos_right _ (by omega)
    unfold I64
    omega
  have ib : I64 (b / (Int.gcd a b : Int)) ∧ -9223372036854775807 ≤ b / (Int.gcd a b : Int) := by
    have := Int.ediv_mul_cancel db
    have h : (b / (Int.gcd a b : Int)).natAbs ≤ b.natAbs := by
      conv => rhs; rw [← this]
      rw [Int.natAbs_mul]
      exact Nat.le_mul_of_pos_right _ (by omega)
    unfold I64
    omega
  have e2 := Gcd_ev _ _ ia.1 ib.1
  rw [show gcdF (a / (Int.gcd a b : Int)) (b / (Int.gcd a b : Int)) = 1 by
    unfold gcdF
    rw [if_pos ⟨ia.2, ib.2⟩, Int.gcd_ediv da db]
    simp
    exact Int.ediv_self (by omega)] at e2
  obtain ⟨K1, e1⟩ := e1
  obtain ⟨K2, e2⟩ := e2
  obtain ⟨K3, e3⟩ := e3
  refine ⟨K1 + K2 + K3 + 1, fun k hk => ?_⟩
  obtain ⟨k, rfl⟩ : ∃ m, k = m + 1 := ⟨k - 1, by omega⟩
  have q1 : PBase.whole_Gcd.f k a 0 = some (a.natAbs : Int) := e1 k (by omega)
  have q2 : PBase.whole_Gcd.f k (a / (Int.gcd a b : Int)) (b / (Int.gcd a b : Int)) = some 1 := e2 k (by omega)
  have q3 : PBase.whole_Gcd.f k b a = some (Int.gcd a b : Int) := e3 k (by omega)
  clear e1 e2 e3
  simp only [drachmlaw01_WholeDivides.j2]
  rw [if_neg (by decide), q1, bs_, if_pos trivial, if_neg (by omega), ea, eb, w64 ia.1.1 ia.1.2, w64 ib.1.1 ib.1.2, q2, bs_, if_pos rfl, q3, bs_, if_pos rfl]
  by_cases h : (a.natAbs : Int) = a
  · rw [if_pos h, decide_eq_true (by omega)]
  · rw [if_neg h, w64 (by omega) (by omega), if_pos (by omega), decide_eq_true (by omega)]
theorem WholeDivides : drachmlaw01_WholeDivides.Pure := by
  intro a b ha hb
  have ha := i64_of ha
  have hb := i64_of hb
  have hgc := Gcd_ev a b ha hb
  refine Ev.rounds (r := true) (g := fun k => drachmlaw01_WholeDivides.f k a b) ?_
  by_cases h : a < -9223372036854775807 ∨ b < -9223372036854775807
  · rw [show gcdF a b = 0 by unfold gcdF; rw [if_neg (by omega)]] at hgc
    refine Ev.congr (fun k => rfl) (awake_ev.bind (Ev.congr (f := fun k => drachmlaw01_WholeDivides.j0 k a b true true) (fun k => ?_) (Ev.step (f := fun k => (PBase.whole_Gcd.f k a b).bind fun t => some (t == 0)) (fun k => ?_) (hgc.bind (Ev.now _)))))
    · by_cases h2 : a < -9223372036854775807
      · rw [if_pos h2]
      · rw [if_neg h2, decide_eq_true (by omega)]
    · simp only [drachmlaw01_WholeDivides.j0]
      rw [if_pos trivial, if_pos trivial]
  · have hg := gcdF_le a b ha hb
    have e : gcdF a b = (Int.gcd a b : Int) := by unfold gcdF; rw [if_pos (by omega)]
    rw [e] at hgc hg
    refine Ev.congr (fun k => rfl) (awake_ev.bind (Ev.congr (f := fun k => drachmlaw01_WholeDivides.j0 k a b true false) (fun k => ?_) (Ev.step (f := fun k => (PBase.whole_Gcd.f k a b).bind fun t103 => drachmlaw01_WholeDivides.j1 k a b true t103 (if a = 0 then b == 0 else false)) (fun k => ?_) (hgc.bind ?_))))
    · rw [if_neg (by omega), decide_eq_false (by omega)]
    · simp only [drachmlaw01_WholeDivides.j0]
      rw [if_neg (by decide)]
      congr 1
      funext t
      by_cases h0 : a = 0
      · rw [if_pos h0, if_pos h0]
      · rw [if_neg h0, if_neg h0]
    · by_cases h0 : a = 0 ∧ b = 0
      · obtain ⟨rfl, rfl⟩ := h0
        refine Ev.step (f := fun _ => some true) (fun k => ?_) (Ev.now _)
        simp only [drachmlaw01_WholeDivides.j1]
        rfl
      · have hpos : 0 < Int.gcd a b := by
          rcases Nat.eq_zero_or_pos (Int.gcd a b) with h | h
          · exact absurd (Int.gcd_eq_zero_iff.1 h) h0
          · exact h
        have hc : (if a = 0 then b == 0 else false) = false := by
          by_cases g : a = 0
          · rw [if_pos g]; simpa using fun e => h0 ⟨g, e⟩
          · rw [if_neg g]
        rw [hc]
        refine Ev.step (fun k => ?_) (j2_ev a b ha hb (by omega) (by omega) h0)
        simp only [drachmlaw01_WholeDivides.j1]
        rw [if_neg (by decide), if_neg (by omega), if_neg (by omega), if_pos (Int.tmod_eq_zero_of_dvd (Int.gcd_dvd_left a b)), Int.tmod_eq_zero_of_dvd (Int.gcd_dvd_right a b)]
        rfl
end Go.Proofs.Ytbfajaeghiodnaa.Pure
