/- Dims with one power alone. No conditions but those in each theorem. -/
import Derived.Test.YtclpbnfcajbmkaaDoorTy6
namespace Go.Proofs.YtclpbnfcajbmkaaDoor.Di
open Go Go.RowKit Go.Proofs Go.Proofs.YtclpbnfcajbmkaaDoor Go.Proofs.YtclpbnfcajbmkaaDoor.PB Go.Proofs.YtclpbnfcajbmkaaDoor.PQ Go.Proofs.YtclpbnfcajbmkaaDoorW.PrintWords Go.Proofs.YtclpbnfcajbmkaaDoorW.PrintLast Go.Proofs.YtclpbnfcajbmkaaDoorW.PrintMore
set_option linter.unusedSimpArgs false
set_option linter.unusedVariables false
def e7 (i : Nat) (v : Int) : Nat → Int := upd (fun _ => 0) i v
theorem e7_right (i : Nat) (h : i < 7) (v : Int) : allR (L7 (e7 i v)) = decide (-99 ≤ v ∧ v ≤ 99) := by
  by_cases hv : -99 ≤ v ∧ v ≤ 99
  · rw [decide_eq_true hv, allR_iff]
    intro q _
    show -99 ≤ (if q = i then v else 0) ∧ (if q = i then v else 0) ≤ 99
    split <;> omega
  · rw [decide_eq_false hv]
    exact allR_not i h (by show ¬ (-99 ≤ (if i = i then v else 0) ∧ (if i = i then v else 0) ≤ 99); rw [if_pos rfl]; exact hv)
theorem eachP_ex (is : Bool) (v0 v1 v2 v3 v4 v5 v6 : Int) : ∃ r0 r1 r2 r3 r4 r5 r6, eachP is v0 v1 v2 v3 v4 v5 v6 = (r0, r1, r2, r3, r4, r5, r6, is && allR [v0, v1, v2, v3, v4, v5, v6]) := by
  unfold eachP
  by_cases h : is = true ∧ allR [v0, v1, v2, v3, v4, v5, v6] = true
  · exact ⟨v0, v1, v2, v3, v4, v5, v6, by rw [if_pos h, h.1, h.2]; rfl⟩
  · refine ⟨0, 0, 0, 0, 0, 0, 0, ?_⟩
    rw [if_neg h, show (is && allR [v0, v1, v2, v3, v4, v5, v6]) = false from by cases is <;> simp_all]
theorem e7_list (op : Int → Int → Int) (h0 : op 0 0 = 0) (i : Nat) (h : i < 7) (n m : Int) : [op (e7 i n 0) (e7 i m 0), op (e7 i n 1) (e7 i m 1), op (e7 i n 2) (e7 i m 2), op (e7 i n 3) (e7 i m 3), op (e7 i n 4) (e7 i m 4), op (e7 i n 5) (e7 i m 5), op (e7 i n 6) (e7 i m 6)] = L7 (e7 i (op n m)) := by
  have e : ∀ q, op (e7 i n q) (e7 i m q) = e7 i (op n m) q := by
    intro q
    show op (if q = i then n else 0) (if q = i then m else 0) = if q = i then op n m else 0
    split
    · rfl
    · exact h0
  rw [e 0, e 1, e 2, e 3, e 4, e 5, e 6]
theorem e7_add (i : Nat) (h : i < 7) (n : Int) : ∃ r0 r1 r2 r3 r4 r5 r6, dims_Add.f (e7 i n 0) (e7 i n 1) (e7 i n 2) (e7 i n 3) (e7 i n 4) (e7 i n 5) (e7 i n 6) (e7 i 1 0) (e7 i 1 1) (e7 i 1 2) (e7 i 1 3) (e7 i 1 4) (e7 i 1 5) (e7 i 1 6) = some (r0, r1, r2, r3, r4, r5, r6, decide ((-99 ≤ n ∧ n ≤ 99) ∧ n < 99)) := by
  unfold dims_Add.f
  obtain ⟨r0, r1, r2, r3, r4, r5, r6, hr⟩ := eachP_ex (allR [e7 i n 0, e7 i n 1, e7 i n 2, e7 i n 3, e7 i n 4, e7 i n 5, e7 i n 6] && allR [e7 i 1 0, e7 i 1 1, e7 i 1 2, e7 i 1 3, e7 i 1 4, e7 i 1 5, e7 i 1 6]) (wrap64 (e7 i n 0 + e7 i 1 0)) (wrap64 (e7 i n 1 + e7 i 1 1)) (wrap64 (e7 i n 2 + e7 i 1 2)) (wrap64 (e7 i n 3 + e7 i 1 3)) (wrap64 (e7 i n 4 + e7 i 1 4)) (wrap64 (e7 i n 5 + e7 i 1 5)) (wrap64 (e7 i n 6 + e7 i 1 6))
  refine ⟨r0, r1, r2, r3, r4, r5, r6, ?_⟩
  rw [hr, e7_list (fun a b => wrap64 (a + b)) (wrap_small 0 (by decide) (by decide)) i h n 1]
  have e1 : allR [e7 i n 0, e7 i n 1, e7 i n 2, e7 i n 3, e7 i n 4, e7 i n 5, e7 i n 6] = _ := e7_right i h n
  have e2 : allR [e7 i 1 0, e7 i 1 1, e7 i 1 2, e7 i 1 3, e7 i 1 4, e7 i 1 5, e7 i 1 6] = _ := e7_right i h 1
  rw [e1, e2, e7_right i h]
  by_cases hn : -99 ≤ n ∧ n ≤ 99
  · rw [wrap_small (n + 1) (by omega) (by omega)]
    congr 8
    rw [Bool.eq_iff_iff]
    simp only [Bool.and_eq_true, decide_eq_true_eq]
    omega
  · congr 8
    simp [hn]
theorem e7_sub (i : Nat) (h : i < 7) (n : Int) : ∃ r0 r1 r2 r3 r4 r5 r6, dims_Sub.f (e7 i n 0) (e7 i n 1) (e7 i n 2) (e7 i n 3) (e7 i n 4) (e7 i n 5) (e7 i n 6) (e7 i 1 0) (e7 i 1 1) (e7 i 1 2) (e7 i 1 3) (e7 i 1 4) (e7 i 1 5) (e7 i 1 6) = some (r0, r1, r2, r3, r4, r5, r6, decide ((-99 ≤ n ∧ n ≤ 99) ∧ n > -99)) := by
  unfold dims_Sub.f
  obtain ⟨r0, r1, r2, r3, r4, r5, r6, hr⟩ := eachP_ex (allR [e7 i n 0, e7 i n 1, e7 i n 2, e7 i n 3, e7 i n 4, e7 i n 5, e7 i n 6] && allR [e7 i 1 0, e7 i 1 1, e7 i 1 2, e7 i 1 3, e7 i 1 4, e7 i 1 5, e7 i 1 6]) (wrap64 (e7 i n 0 - e7 i 1 0)) (wrap64 (e7 i n 1 - e7 i 1 1)) (wrap64 (e7 i n 2 - e7 i 1 2)) (wrap64 (e7 i n 3 - e7 i 1 3)) (wrap64 (e7 i n 4 - e7 i 1 4)) (wrap64 (e7 i n 5 - e7 i 1 5)) (wrap64 (e7 i n 6 - e7 i 1 6))
  refine ⟨r0, r1, r2, r3, r4, r5, r6, ?_⟩
  rw [hr, e7_list (fun a b => wrap64 (a - b)) (wrap_small 0 (by decide) (by decide)) i h n 1]
  have e1 : allR [e7 i n 0, e7 i n 1, e7 i n 2, e7 i n 3, e7 i n 4, e7 i n 5, e7 i n 6] = _ := e7_right i h n
  have e2 : allR [e7 i 1 0, e7 i 1 1, e7 i 1 2, e7 i 1 3, e7 i 1 4, e7 i 1 5, e7 i 1 6] = _ := e7_right i h 1
  rw [e1, e2, e7_right i h]
  by_cases hn : -99 ≤ n ∧ n ≤ 99
  · rw [wrap_small (n - 1) (by omega) (by omega)]
    congr 8
    rw [Bool.eq_iff_iff]
    simp only [Bool.and_eq_true, decide_eq_true_eq]
    omega
  · congr 8
    simp [hn]
theorem e7_times (i : Nat) (h : i < 7) (n : Int) (hn0 : -9223372036854775808 ≤ n) (hn1 : n ≤ 9223372036854775807) : ∃ r0 r1 r2 r3 r4 r5 r6, dims_Times.f (e7 i 1 0) (e7 i 1 1) (e7 i 1 2) (e7 i 1 3) (e7 i 1 4) (e7 i 1 5) (e7 i 1 6) n = some (r0, r1, r2, r3, r4, r5, r6, decide (-99 ≤ n ∧ n ≤ 99)) := by
  unfold dims_Times.f
  obtain ⟨r0, r1, r2, r3, r4, r5, r6, hr⟩ := eachP_ex (allR [e7 i 1 0, e7 i 1 1, e7 i 1 2, e7 i 1 3, e7 i 1 4, e7 i 1 5, e7 i 1 6] && few (e7 i 1 0) (e7 i 1 1) (e7 i 1 2) (e7 i 1 3) (e7 i 1 4) (e7 i 1 5) (e7 i 1 6) n) (wrap64 (e7 i 1 0 * n)) (wrap64 (e7 i 1 1 * n)) (wrap64 (e7 i 1 2 * n)) (wrap64 (e7 i 1 3 * n)) (wrap64 (e7 i 1 4 * n)) (wrap64 (e7 i 1 5 * n)) (wrap64 (e7 i 1 6 * n))
  refine ⟨r0, r1, r2, r3, r4, r5, r6, ?_⟩
  rw [hr, e7_list (fun a _ => wrap64 (a * n)) (by show wrap64 (0 * n) = 0; rw [Int.zero_mul]; exact wrap_small 0 (by decide) (by decide)) i h 1 1]
  have e2 : allR [e7 i 1 0, e7 i 1 1, e7 i 1 2, e7 i 1 3, e7 i 1 4, e7 i 1 5, e7 i 1 6] = _ := e7_right i h 1
  rw [e2, e7_right i h, Int.one_mul, wrap_small n hn0 hn1]
  by_cases hn : -99 ≤ n ∧ n ≤ 99
  · have hf := (few_iff (e7 i 1 0) (e7 i 1 1) (e7 i 1 2) (e7 i 1 3) (e7 i 1 4) (e7 i 1 5) (e7 i 1 6) n).2 (fun _ => .inr hn)
    rw [hf]
    simp [hn]
  · congr 8
    simp [hn]
end Go.Proofs.YtclpbnfcajbmkaaDoor.Di
