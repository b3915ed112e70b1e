/- WholeSplits' plain law: for any number, and any by, the law's function answers true. Its conditions: none. -/
import Derived.Test.YtbfajaeghiodnaaPWholeSplitsx1
import Derived.Test.YtbfajaeghiodnaaV4
namespace Go.Proofs.Ytbfajaeghiodnaa.Pure
open Go.RowKit Go.Proofs.Ytbfajaeghiodnaa.PWholeSplits Go.Proofs.YtbfajaeghiodnaaW.PrintWords Go.Proofs.YtbfajaeghiodnaaW.PrintLast Go.Proofs.YtbfajaeghiodnaaW.PrintMore

/-- What is split: so many times by, times what is left. -/
theorem splitL_tells (b : Int) (hb : 2 ≤ b) : ∀ (n : Nat) (x k : Int), x ≠ 0 → x.natAbs ≤ n → ∃ m : Nat, (splitL n x b k).1 = k + m ∧ x = (splitL n x b k).2 * b ^ m ∧ (splitL n x b k).2 ≠ 0 ∧ Int.tmod (splitL n x b k).2 b ≠ 0 ∧ 2 ^ m ≤ x.natAbs := by
  intro n
  induction n with
  | zero => intro x k h0 hn; omega
  | succ n ih =>
    intro x k h0 hn
    unfold splitL
    by_cases hd : Int.tmod x b = 0
    · rw [if_pos hd]
      have ht := tdiv_lt h0 hb hd
      obtain ⟨m, e1, e2, e3, e4, e5⟩ := ih (Int.tdiv x b) (k + 1) ht.2.1 (by omega)
      refine ⟨m + 1, by omega, ?_, e3, e4, ?_⟩
      · rw [Int.pow_succ, ← Int.mul_assoc, ← e2, ht.2.2]
      · have h4 : x.natAbs = (Int.tdiv x b).natAbs * b.natAbs := by rw [← Int.natAbs_mul, ht.2.2]
        have h6 : (Int.tdiv x b).natAbs * 2 ≤ (Int.tdiv x b).natAbs * b.natAbs := Nat.mul_le_mul_left _ (by omega)
        rw [Nat.pow_succ]
        omega
    · rw [if_neg hd]
      exact ⟨0, by omega, by simp, h0, hd, by simp; omega⟩
theorem join_ev (n b r : Int) (hn : I64 n) (hn2 : -9223372036854775807 ≤ n) (hb : 2 ≤ b) (hb2 : b ≤ 1000) (m : Nat) (hm : m ≤ 63) (e : n = r * b ^ m) : ∀ (d i : Nat), i + d = m → Ev (fun k => drachmlaw01_WholeSplits.l0 k n true b m (r * b ^ i) i) true := by
  have hle : ∀ i, i ≤ m → (r * b ^ i).natAbs ≤ n.natAbs := by
    intro i hi
    rw [e, Int.natAbs_mul, Int.natAbs_mul]
    refine Nat.mul_le_mul_left _ ?_
    rw [Int.natAbs_pow, Int.natAbs_pow]
    exact Nat.pow_le_pow_right (by omega) hi
  obtain ⟨n1, n2⟩ := hn
  intro d
  induction d with
  | zero =>
    intro i hi
    obtain rfl : i = m := by omega
    refine Ev.step (f := fun _ => some true) (fun k => ?_) (Ev.now _)
    simp only [drachmlaw01_WholeSplits.l0]
    rw [if_neg (by omega), if_pos trivial, e, beq_self_eq_true]
  | succ d ih =>
    intro i hi
    have h1 := hle i (by omega)
    have h2 := hle (i + 1) (by omega)
    have e2 : r * b ^ i * b = r * b ^ (i + 1) := by rw [Int.pow_succ, Int.mul_assoc]
    have hm := Mul_ev (r * b ^ i) b (by unfold I64; omega) (by unfold I64; omega)
    rw [show mulF (r * b ^ i) b = (r * b ^ (i + 1), true) by unfold mulF; rw [e2, if_pos (by omega)]] at hm
    refine Ev.step (f := fun k => (PBase.whole_Mul.f k (r * b ^ i) b).bind fun bt => if bt.2 = true then drachmlaw01_WholeSplits.l0 k n true b m bt.1 ((i + 1 : Nat) : Int) else some false) (fun k => ?_) (hm.bind (Ev.congr (fun k => if_pos rfl) (ih (i + 1) (by omega))))
    simp only [drachmlaw01_WholeSplits.l0]
    rw [if_pos (by omega), wsucc (by omega)]
theorem byIn (b : Int) : 2 ≤ wrap64 (2 + (Int.tmod (wrap64 ((Int.tmod b 999) + 999)) 999)) ∧ wrap64 (2 + (Int.tmod (wrap64 ((Int.tmod b 999) + 999)) 999)) ≤ 1000 := by
  have h1 := Int.tmod_lt_of_pos b (show (0 : Int) < 999 by decide)
  have h2 := Int.lt_tmod_of_pos b (show (0 : Int) < 999 by decide)
  rw [w64 (x := Int.tmod b 999 + 999) (by omega) (by omega)]
  have h3 := Int.tmod_lt_of_pos (Int.tmod b 999 + 999) (show (0 : Int) < 999 by decide)
  have h4 := Int.tmod_nonneg (999 : Int) (show 0 ≤ Int.tmod b 999 + 999 by omega)
  rw [w64 (by omega) (by omega)]
  omega
theorem WholeSplits : drachmlaw01_WholeSplits.Pure := by
  intro n by' hn _
  have hn := i64_of hn
  have hb := byIn by'
  refine Ev.rounds (r := true) (g := fun k => drachmlaw01_WholeSplits.f k n by') ?_
  generalize hB : wrap64 (2 + (Int.tmod (wrap64 ((Int.tmod by' 999) + 999)) 999)) = b at *
  have hs := Split_ev n b hn
  refine Ev.congr (f := fun k => (PBase.drachmlaw01_awake.f k).bind fun t101 => ((PBase.whole_Split.f k n b).bind fun bt102 => (if n = 0 then (drachmlaw01_WholeSplits.j0 k n t101 b bt102.1 bt102.2 true) else (drachmlaw01_WholeSplits.j0 k n t101 b bt102.1 bt102.2 (decide (n < (-9223372036854775807))))))) (fun k => ?_) (awake_ev.bind (hs.bind ?_))
  · unfold drachmlaw01_WholeSplits.f
    rw [hB]
  · by_cases h : n = 0 ∨ n < -9223372036854775807
    · rw [show splitF n b = (0, n) by unfold splitF; rw [if_pos (by omega)]]
      refine Ev.congr (f := fun k => drachmlaw01_WholeSplits.j0 k n true b 0 n true) (fun k => ?_) (Ev.step (f := fun _ => some true) (fun k => ?_) (Ev.now _))
      · by_cases h1 : n = 0
        · rw [if_pos h1]
        · rw [if_neg h1, decide_eq_true (by omega)]
      · simp only [drachmlaw01_WholeSplits.j0]
        rw [if_pos trivial, if_pos trivial, if_pos trivial, beq_self_eq_true]
    · have hF : splitF n b = splitL n.natAbs n b 0 := by unfold splitF; rw [if_neg (by omega)]
      obtain ⟨m, e1, e2, e3, e4, e5⟩ := splitL_tells b hb.1 n.natAbs n 0 (by omega) (Nat.le_refl _)
      rw [hF]
      generalize splitL n.natAbs n b 0 = p at *
      obtain ⟨c, r⟩ := p
      simp only at e1 e2 e3 e4
      have hm : m ≤ 63 := by
        rcases Nat.lt_or_ge 63 m with g | g
        · have := Nat.pow_le_pow_right (show 0 < 2 by decide) g
          obtain ⟨n1, n2⟩ := hn
          have : (2 : Nat) ^ (63 + 1) = 18446744073709551616 := by decide
          omega
        · exact g
      obtain rfl : c = (m : Int) := by omega
      refine Ev.congr (f := fun k => drachmlaw01_WholeSplits.j0 k n true b m r false) (fun k => ?_) (Ev.step (f := fun k => drachmlaw01_WholeSplits.j1 k n true b m r false) (fun k => ?_) (Ev.step (f := fun k => drachmlaw01_WholeSplits.l0 k n true b m (r * b ^ 0) ((0 : Nat) : Int)) (fun k => ?_) (join_ev n b r hn (by omega) hb.1 hb.2 m hm e2 m 0 (by omega))))
      · rw [if_neg (by omega), decide_eq_false (by omega)]
      · simp only [drachmlaw01_WholeSplits.j0]
        rw [if_neg (by decide), if_neg (by omega), if_neg (by omega), if_neg e3, if_neg (by omega), beq_eq_false_iff_ne.2 e4]
      · simp only [drachmlaw01_WholeSplits.j1]
        rw [if_neg (by decide), Int.pow_zero, Int.mul_one]
        rfl
end Go.Proofs.Ytbfajaeghiodnaa.Pure
