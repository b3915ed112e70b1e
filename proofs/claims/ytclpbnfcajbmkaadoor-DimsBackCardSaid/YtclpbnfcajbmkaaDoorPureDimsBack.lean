/- DimsBack's plain law: for any dims and any number the law's function answers true. Its conditions: none beyond the sizes that every row has. -/
import Derived.Test.YtclpbnfcajbmkaaDoorPDimsBackx2
import Derived.Test.YtclpbnfcajbmkaaDoorTy6
namespace Go.Proofs.YtclpbnfcajbmkaaDoor.Pure
open Go Go.RowKit Go.Proofs.YtclpbnfcajbmkaaDoor Go.Proofs.YtclpbnfcajbmkaaDoor.Di Go.Proofs.YtclpbnfcajbmkaaDoor.PQ Go.Proofs.YtclpbnfcajbmkaaDoor.PDimsBack Go.Proofs.YtclpbnfcajbmkaaDoorW.PrintWords Go.Proofs.YtclpbnfcajbmkaaDoorW.PrintLast
set_option linter.unusedSimpArgs false
set_option linter.unusedVariables false
theorem bd_mul_iff {n p a0 a1 a2 a3 a4 a5 a6 : Int} (hn : 0 ≤ n) (hnp : n ≤ p) (h : bd 99 [a0 * p, a1 * p, a2 * p, a3 * p, a4 * p, a5 * p, a6 * p]) : bd 99 [a0 * n, a1 * n, a2 * n, a3 * n, a4 * n, a5 * n, a6 * n] := by
  obtain ⟨h0, h1, h2, h3, h4, h5, h6⟩ := bd7 h
  intro x hx
  simp only [List.mem_cons, List.not_mem_nil, or_false] at hx
  have key : ∀ a : Int, -99 ≤ a * p ∧ a * p ≤ 99 → -99 ≤ a * n ∧ a * n ≤ 99 := by
    intro a ha
    rcases Int.le_total 0 a with h0 | h0
    · have h1 := Int.mul_le_mul_of_nonneg_left hnp h0
      have h2 := Int.mul_nonneg h0 hn
      omega
    · have h1 := Int.mul_le_mul_of_nonneg_left hnp (show 0 ≤ -a by omega)
      have h2 := Int.mul_nonneg (show 0 ≤ -a by omega) hn
      rw [Int.neg_mul] at h1 h2
      rw [Int.neg_mul] at h1
      omega
  rcases hx with rfl | rfl | rfl | rfl | rfl | rfl | rfl
  · exact key a0 h0
  · exact key a1 h1
  · exact key a2 h2
  · exact key a3 h3
  · exact key a4 h4
  · exact key a5 h5
  · exact key a6 h6
theorem neg_bd {a0 a1 a2 a3 a4 a5 a6 n : Int} (h : bd 99 [a0 * n, a1 * n, a2 * n, a3 * n, a4 * n, a5 * n, a6 * n]) : bd 99 [a0 * -n, a1 * -n, a2 * -n, a3 * -n, a4 * -n, a5 * -n, a6 * -n] := by
  obtain ⟨h0, h1, h2, h3, h4, h5, h6⟩ := bd7 h
  intro x hx
  simp only [List.mem_cons, List.not_mem_nil, or_false] at hx
  rcases hx with rfl | rfl | rfl | rfl | rfl | rfl | rfl <;> (rw [Int.mul_neg]; omega)
theorem neg_bd' {a0 a1 a2 a3 a4 a5 a6 n : Int} (h : bd 99 [a0 * -n, a1 * -n, a2 * -n, a3 * -n, a4 * -n, a5 * -n, a6 * -n]) : bd 99 [a0 * n, a1 * n, a2 * n, a3 * n, a4 * n, a5 * n, a6 * n] := by
  obtain ⟨h0, h1, h2, h3, h4, h5, h6⟩ := bd7 h
  intro x hx
  simp only [List.mem_cons, List.not_mem_nil, or_false] at hx
  simp only [Int.mul_neg] at h0 h1 h2 h3 h4 h5 h6
  rcases hx with rfl | rfl | rfl | rfl | rfl | rfl | rfl <;> omega
theorem zero_add : dims_Add.f 0 0 0 0 0 0 0 0 0 0 0 0 0 0 = some (0, 0, 0, 0, 0, 0, 0, true) := by
  rw [add_ok (m := 0) (p := 0) (by intro x hx; simp only [List.mem_cons, List.not_mem_nil, or_false] at hx; rcases hx with rfl | rfl | rfl | rfl | rfl | rfl | rfl <;> omega) (by intro x hx; simp only [List.mem_cons, List.not_mem_nil, or_false] at hx; rcases hx with rfl | rfl | rfl | rfl | rfl | rfl | rfl <;> omega) (by decide) (by decide) (by decide)]
  rfl
/-- The rounds of the loop: what they have come to. -/
theorem back_loop {a0 a1 a2 a3 a4 a5 a6 n : Int} (hA : bd 99 [a0, a1, a2, a3, a4, a5, a6]) (h0 : 0 ≤ n) (h9 : n ≤ 9) : ∀ (d : Nat) (j : Int), j + d = n → 0 ≤ j → ∀ (fits : Bool) s0 s1 s2 s3 s4 s5 s6, ((fits = true ∧ s0 = a0 * j ∧ s1 = a1 * j ∧ s2 = a2 * j ∧ s3 = a3 * j ∧ s4 = a4 * j ∧ s5 = a5 * j ∧ s6 = a6 * j ∧ bd 99 [a0 * j, a1 * j, a2 * j, a3 * j, a4 * j, a5 * j, a6 * j]) ∨ (fits = false ∧ ¬ bd 99 [a0 * n, a1 * n, a2 * n, a3 * n, a4 * n, a5 * n, a6 * n])) →
    drachmlaw03_DimsBack.l0 (d + 1) true n fits j a0 a1 a2 a3 a4 a5 a6 s0 s1 s2 s3 s4 s5 s6 = some true := by
  have hn9 : -99 ≤ n ∧ n ≤ 99 := by omega
  have hw : wrap64 (-n) = -n := Di.wrap_small _ (by omega) (by omega)
  have hT := times_val hA hn9
  have hTn := times_val (n := -n) hA (by omega)
  intro d
  induction d with
  | zero =>
    intro j hj hj0 fits s0 s1 s2 s3 s4 s5 s6 hinv
    obtain rfl : n = j := by omega
    rw [drachmlaw03_DimsBack.l0, if_neg (by omega), hT, hw, hTn]
    simp only [Option.bind_some]
    rcases hinv with ⟨rfl, rfl, rfl, rfl, rfl, rfl, rfl, rfl, hb⟩ | ⟨rfl, hb⟩
    · rw [eachP_ok (a0 * n) (a1 * n) (a2 * n) (a3 * n) (a4 * n) (a5 * n) (a6 * n) hb, eachP_ok (a0 * -n) (a1 * -n) (a2 * -n) (a3 * -n) (a4 * -n) (a5 * -n) (a6 * -n) (neg_bd hb)]
      simp only
      rw [add_val hb (neg_bd hb), show a0 * n + a0 * -n = 0 from by rw [Int.mul_neg]; omega, show a1 * n + a1 * -n = 0 from by rw [Int.mul_neg]; omega, show a2 * n + a2 * -n = 0 from by rw [Int.mul_neg]; omega, show a3 * n + a3 * -n = 0 from by rw [Int.mul_neg]; omega, show a4 * n + a4 * -n = 0 from by rw [Int.mul_neg]; omega, show a5 * n + a5 * -n = 0 from by rw [Int.mul_neg]; omega, show a6 * n + a6 * -n = 0 from by rw [Int.mul_neg]; omega, eachP_ok 0 0 0 0 0 0 0 (fun x hx => by simp only [List.mem_cons, List.not_mem_nil, or_false] at hx; rcases hx with rfl | rfl | rfl | rfl | rfl | rfl | rfl <;> omega)]
      simp
    · rw [eachP_no (a0 * n) (a1 * n) (a2 * n) (a3 * n) (a4 * n) (a5 * n) (a6 * n) hb, eachP_no (a0 * -n) (a1 * -n) (a2 * -n) (a3 * -n) (a4 * -n) (a5 * -n) (a6 * -n) (fun h => hb (neg_bd' h))]
      simp only
      rw [zero_add]
      simp
  | succ d ih =>
    intro j hj hj0 fits s0 s1 s2 s3 s4 s5 s6 hinv
    rw [drachmlaw03_DimsBack.l0, if_pos (by omega)]
    rcases hinv with ⟨rfl, rfl, rfl, rfl, rfl, rfl, rfl, rfl, hb⟩ | ⟨rfl, hb⟩
    · rw [if_pos rfl, add_val hb hA, Di.wrap_small (j + 1) (by omega) (by omega)]
      simp only [Option.bind_some]
      have e : ∀ a : Int, a * j + a = a * (j + 1) := fun a => by rw [Int.mul_add, Int.mul_one]
      rw [e a0, e a1, e a2, e a3, e a4, e a5, e a6]
      by_cases hs : bd 99 [a0 * (j + 1), a1 * (j + 1), a2 * (j + 1), a3 * (j + 1), a4 * (j + 1), a5 * (j + 1), a6 * (j + 1)]
      · rw [eachP_ok (a0 * (j + 1)) (a1 * (j + 1)) (a2 * (j + 1)) (a3 * (j + 1)) (a4 * (j + 1)) (a5 * (j + 1)) (a6 * (j + 1)) hs]
        exact ih (j + 1) (by omega) (by omega) true (a0 * (j + 1)) (a1 * (j + 1)) (a2 * (j + 1)) (a3 * (j + 1)) (a4 * (j + 1)) (a5 * (j + 1)) (a6 * (j + 1)) (.inl ⟨rfl, rfl, rfl, rfl, rfl, rfl, rfl, rfl, hs⟩)
      · rw [eachP_no (a0 * (j + 1)) (a1 * (j + 1)) (a2 * (j + 1)) (a3 * (j + 1)) (a4 * (j + 1)) (a5 * (j + 1)) (a6 * (j + 1)) hs]
        exact ih (j + 1) (by omega) (by omega) false 0 0 0 0 0 0 0 (.inr ⟨rfl, fun h => hs (bd_mul_iff (by omega) (by omega) h)⟩)
    · rw [if_neg (by decide), hT, hw, hTn, eachP_no (a0 * n) (a1 * n) (a2 * n) (a3 * n) (a4 * n) (a5 * n) (a6 * n) hb, eachP_no (a0 * -n) (a1 * -n) (a2 * -n) (a3 * -n) (a4 * -n) (a5 * -n) (a6 * -n) (fun h => hb (neg_bd' h))]
      simp only [Option.bind_some]
      rw [zero_add]
      simp
theorem DimsBack : drachmlaw03_DimsBack.Pure := by
  intro a0 a1 a2 a3 a4 a5 a6 b0 b1 b2 b3 b4 b5 b6 m _ _ _ _ _ _ _ _ _ _ _ _ _ _ _
  have hA := tm_bd 99 a0 a1 a2 a3 a4 a5 a6 (by decide)
  have hB := tm_bd 99 b0 b1 b2 b3 b4 b5 b6 (by decide)
  refine ⟨20, ?_⟩
  unfold drachmlaw03_DimsBack.f
  rw [awake_val, near_val _ _ _ _ _ _ _ _ (by decide), near_val _ _ _ _ _ _ _ _ (by decide)]
  simp only [Option.bind_some]
  generalize tm 99 a0 = x0 at *
  generalize tm 99 a1 = x1 at *
  generalize tm 99 a2 = x2 at *
  generalize tm 99 a3 = x3 at *
  generalize tm 99 a4 = x4 at *
  generalize tm 99 a5 = x5 at *
  generalize tm 99 a6 = x6 at *
  generalize tm 99 b0 = y0 at *
  generalize tm 99 b1 = y1 at *
  generalize tm 99 b2 = y2 at *
  generalize tm 99 b3 = y3 at *
  generalize tm 99 b4 = y4 at *
  generalize tm 99 b5 = y5 at *
  generalize tm 99 b6 = y6 at *
  rw [add_comm_val hB hA, add_val hA hB]
  simp only [Option.bind_some, beq_self_eq_true, Bool.not_true, Bool.or_self, Bool.false_eq_true, if_false, bne_self_eq_false]
  have hl : ∀ k, 12 ≤ k → drachmlaw03_DimsBack.j1 (k + 1) m true false x0 x1 x2 x3 x4 x5 x6 = some true := by
    intro k hk
    rw [drachmlaw03_DimsBack.j1, if_neg (by decide)]
    have h1 := tm_range 9 m (by decide)
    have e1 : Int.tmod m 10 = tm 9 m := rfl
    rw [e1, Di.wrap_small (tm 9 m + 10) (by omega) (by omega)]
    have h2 := Int.tmod_lt_of_pos (tm 9 m + 10) (show (0 : Int) < 10 by decide)
    have h3 := Int.tmod_nonneg (10 : Int) (show 0 ≤ tm 9 m + 10 by omega)
    generalize Int.tmod (tm 9 m + 10) 10 = n at h2 h3
    obtain ⟨d, hd⟩ : ∃ d : Nat, (d : Int) = n := ⟨n.toNat, by omega⟩
    have hloop := back_loop hA h3 (by omega) d 0 (by omega) (Int.le_refl _) true 0 0 0 0 0 0 0 (.inl ⟨rfl, by simp, by simp, by simp, by simp, by simp, by simp, by simp, by intro x hx; simp only [Int.mul_zero, List.mem_cons, List.not_mem_nil, or_false] at hx; rcases hx with rfl | rfl | rfl | rfl | rfl | rfl | rfl <;> omega⟩)
    obtain ⟨c, rfl⟩ : ∃ c, k = d + 1 + c := ⟨k - (d + 1), by omega⟩
    exact lift_mono (F := fun k => drachmlaw03_DimsBack.l0 k true n true 0 x0 x1 x2 x3 x4 x5 x6 0 0 0 0 0 0 0) (fun k => (drachmlaw03_DimsBack.mono_l k).2.2 _ _ _ _ _ _ _ _ _ _ _ _ _ _ _ _ _ _) hloop c
  rw [drachmlaw03_DimsBack.j0, if_neg (by decide)]
  by_cases hs : bd 99 [x0 + y0, x1 + y1, x2 + y2, x3 + y3, x4 + y4, x5 + y5, x6 + y6]
  · rw [eachP_ok (x0 + y0) (x1 + y1) (x2 + y2) (x3 + y3) (x4 + y4) (x5 + y5) (x6 + y6) hs]
    simp only [if_true]
    rw [sub_val hs hB]
    have e : ∀ a b : Int, a + b - b = a := fun a b => by omega
    rw [e x0 y0, e x1 y1, e x2 y2, e x3 y3, e x4 y4, e x5 y5, e x6 y6, eachP_ok x0 x1 x2 x3 x4 x5 x6 hA]
    simp only [Option.bind_some, if_true, beq_self_eq_true, Bool.not_true, Bool.or_self]
    exact hl 18 (by decide)
  · rw [eachP_no (x0 + y0) (x1 + y1) (x2 + y2) (x3 + y3) (x4 + y4) (x5 + y5) (x6 + y6) hs]
    obtain ⟨r, hr⟩ : ∃ r, dims_Sub.f 0 0 0 0 0 0 0 y0 y1 y2 y3 y4 y5 y6 = some r := ⟨_, rfl⟩
    simp only [hr, Option.bind_some, Bool.false_eq_true, if_false]
    exact hl 18 (by decide)
end Go.Proofs.YtclpbnfcajbmkaaDoor.Pure
