/- WholeScales' plain law: for any three numbers the law's function answers true. Its conditions: none. -/
import Derived.Test.YtbfajaeghiodnaaPWholeScalesx1
import Derived.Test.YtbfajaeghiodnaaV4
namespace Go.Proofs.Ytbfajaeghiodnaa.Pure
open Go.RowKit Go.Proofs.Ytbfajaeghiodnaa.PWholeScales Go.Proofs.YtbfajaeghiodnaaW.PrintWords Go.Proofs.YtbfajaeghiodnaaW.PrintLast Go.Proofs.YtbfajaeghiodnaaW.PrintMore

theorem and30 (n : Int) : Go.bits .and .i64 n 1073741823 = n % 1073741824 := by
  have h : (BitVec.ofInt 64 1073741823).toNat = 2 ^ 30 - 1 := by decide
  have key : (BitVec.ofInt 64 n &&& BitVec.ofInt 64 1073741823).toNat = (n % ((2 ^ 64 : Nat) : Int)).toNat % 2 ^ 30 := by
    rw [BitVec.toNat_and, BitVec.toNat_ofInt, h, Nat.and_two_pow_sub_one_eq_mod]
  show IntKind.i64.wrap ((BitVec.ofInt 64 n &&& BitVec.ofInt 64 1073741823).toNat : Nat) = n % 1073741824
  rw [key, IntKind.wrap_i64]
  omega
theorem mul_small (x k : Int) (hx : -1073741824 ≤ x) (hx2 : x ≤ 1073741824) (hk : 1 ≤ k) (hk2 : k ≤ 1073741824) : mulF x k = (x * k, true) ∧ I64 (x * k) ∧ -9223372036854775807 ≤ x * k := by
  have h1 : x * k ≤ 1152921504606846976 := by
    rcases Int.le_total 0 x with h | h
    · have := Int.mul_le_mul hx2 hk2 (by omega) (by decide); omega
    · have : x * k ≤ 0 := Int.mul_nonpos_of_nonpos_of_nonneg h (by omega); omega
  have h2 : -1152921504606846976 ≤ x * k := by
    rcases Int.le_total 0 x with h | h
    · have := Int.mul_nonneg h (show 0 ≤ k by omega); omega
    · have := Int.mul_le_mul (show -x ≤ 1073741824 by omega) hk2 (by omega) (by decide)
      rw [Int.neg_mul] at this
      omega
  refine ⟨?_, ?_, by omega⟩
  · unfold mulF; rw [if_pos (by omega)]
  · unfold I64; omega
theorem WholeScales : drachmlaw01_WholeScales.Pure := by
  intro a b c ha hb _
  have ha := i64_of ha
  have hb := i64_of hb
  obtain ⟨a1, a2⟩ := ha
  obtain ⟨b1, b2⟩ := hb
  refine Ev.rounds (r := true) (g := fun k => drachmlaw01_WholeScales.f k a b c) ?_
  have hk : wrap64 (1 + Go.bits .and .i64 c 1073741823) = 1 + c % 1073741824 := by rw [and30, w64 (by omega) (by omega)]
  have hx : -1073741824 ≤ a / 8589934592 ∧ a / 8589934592 ≤ 1073741823 := by omega
  have hy : -1073741824 ≤ b / 8589934592 ∧ b / 8589934592 ≤ 1073741823 := by omega
  have hkk : 1 ≤ 1 + c % 1073741824 ∧ 1 + c % 1073741824 ≤ 1073741824 := by omega
  generalize hxa : a / 8589934592 = x at *
  generalize hyb : b / 8589934592 = y at *
  generalize 1 + c % 1073741824 = m at *
  have hg : 0 ≤ (Int.gcd x y : Int) ∧ (Int.gcd x y : Int) ≤ 1073741824 := by
    by_cases h0 : x = 0
    · subst h0; rw [Int.gcd_zero_left]; omega
    · have := Nat.le_of_dvd (by omega) (Nat.gcd_dvd_left x.natAbs y.natAbs)
      change Int.gcd x y ≤ _ at this
      omega
  obtain ⟨p1, p2, p3⟩ := mul_small x m hx.1 (by omega) hkk.1 hkk.2
  obtain ⟨q1, q2, q3⟩ := mul_small y m hy.1 (by omega) hkk.1 hkk.2
  obtain ⟨g1, g2, g3⟩ := mul_small (Int.gcd x y : Int) m (by omega) hg.2 hkk.1 hkk.2
  have e1 := Mul_ev x m (by unfold I64; omega) (by unfold I64; omega)
  have e2 := Mul_ev y m (by unfold I64; omega) (by unfold I64; omega)
  have e3 := Gcd_ev x y (by unfold I64; omega) (by unfold I64; omega)
  have e4 := Mul_ev (Int.gcd x y : Int) m (by unfold I64; omega) (by unfold I64; omega)
  have e5 := Gcd_ev (x * m) (y * m) p2 q2
  rw [p1] at e1
  rw [q1] at e2
  rw [g1] at e4
  rw [show gcdF x y = (Int.gcd x y : Int) by unfold gcdF; rw [if_pos (by omega)]] at e3
  rw [show gcdF (x * m) (y * m) = (Int.gcd x y : Int) * m by
    unfold gcdF
    rw [if_pos ⟨p3, q3⟩, Int.gcd_mul_right]
    push_cast
    congr 1
    omega] at e5
  refine Ev.congr (f := fun k => (PBase.drachmlaw01_awake.f k).bind fun t101 => ((PBase.whole_Mul.f k x m).bind fun bt102 => ((PBase.whole_Mul.f k y m).bind fun bt104 => ((PBase.whole_Gcd.f k x y).bind fun t106 => ((PBase.whole_Mul.f k t106 m).bind fun bt107 => (if t101 = true then (if bt102.2 = true then (if bt104.2 = true then (if bt107.2 = true then ((PBase.whole_Gcd.f k bt102.1 bt104.1).bind fun t109 => (some (t109 == bt107.1))) else (some false)) else (some false)) else (some false)) else (some false))))))) (fun k => ?_) (awake_ev.bind (e1.bind (e2.bind (e3.bind (e4.bind (Ev.congr (f := fun k => (PBase.whole_Gcd.f k (x * m) (y * m)).bind fun t109 => (some (t109 == (Int.gcd x y : Int) * m))) (fun k => ?_) (e5.bind (Ev.congr (f := fun _ => some true) (fun k => ?_) (Ev.now _)))))))))
  · unfold drachmlaw01_WholeScales.f
    rw [hk, hxa, hyb]
  · rw [if_pos rfl, if_pos rfl, if_pos rfl, if_pos rfl]
  · rw [beq_self_eq_true]
end Go.Proofs.Ytbfajaeghiodnaa.Pure
