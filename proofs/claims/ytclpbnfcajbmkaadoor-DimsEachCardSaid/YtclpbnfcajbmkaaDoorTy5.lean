/- Sums, differences and so many times: the program's are the document's. No conditions but those in each theorem. -/
import Derived.Test.YtclpbnfcajbmkaaDoorTy4
import Derived.Test.YtclpbnfcajbmkaaDoorDi5
namespace Go.Proofs.YtclpbnfcajbmkaaDoor.Di
open Go Go.RowKit Go.Proofs Go.Proofs.YtclpbnfcajbmkaaDoor Go.Proofs.YtclpbnfcajbmkaaDoor.PB Go.Proofs.YtclpbnfcajbmkaaDoor.PQ Go.Proofs.YtclpbnfcajbmkaaDoorW.PrintWords Go.Proofs.YtclpbnfcajbmkaaDoorW.PrintLast Go.Proofs.YtclpbnfcajbmkaaDoorW.PrintMore
set_option linter.unusedSimpArgs false
set_option linter.unusedVariables false
theorem addN_same (a0 a1 a2 a3 a4 a5 a6 b0 b1 b2 b3 b4 b5 b6 n : Int) (c0 c1 c2 c3 c4 c5 c6 : Int) (hc : allR [b0, b1, b2, b3, b4, b5, b6] = true → wrap64 (a0 + wrap64 (n * b0)) = c0 ∧ wrap64 (a1 + wrap64 (n * b1)) = c1 ∧ wrap64 (a2 + wrap64 (n * b2)) = c2 ∧ wrap64 (a3 + wrap64 (n * b3)) = c3 ∧ wrap64 (a4 + wrap64 (n * b4)) = c4 ∧ wrap64 (a5 + wrap64 (n * b5)) = c5 ∧ wrap64 (a6 + wrap64 (n * b6)) = c6) :
    some (eachP (allR [a0, a1, a2, a3, a4, a5, a6] && allR [b0, b1, b2, b3, b4, b5, b6]) c0 c1 c2 c3 c4 c5 c6) = drachmref03_Add.f a0 a1 a2 a3 a4 a5 a6 b0 b1 b2 b3 b4 b5 b6 n := by
  unfold drachmref03_Add.f gotA eachP
  have hL : L7 (accA (fn7 a0 a1 a2 a3 a4 a5 a6) (fn7 b0 b1 b2 b3 b4 b5 b6) n 7) = [wrap64 (a0 + wrap64 (n * b0)), wrap64 (a1 + wrap64 (n * b1)), wrap64 (a2 + wrap64 (n * b2)), wrap64 (a3 + wrap64 (n * b3)), wrap64 (a4 + wrap64 (n * b4)), wrap64 (a5 + wrap64 (n * b5)), wrap64 (a6 + wrap64 (n * b6))] := rfl
  have ho : out8 (accA (fn7 a0 a1 a2 a3 a4 a5 a6) (fn7 b0 b1 b2 b3 b4 b5 b6) n 7, true) = (wrap64 (a0 + wrap64 (n * b0)), wrap64 (a1 + wrap64 (n * b1)), wrap64 (a2 + wrap64 (n * b2)), wrap64 (a3 + wrap64 (n * b3)), wrap64 (a4 + wrap64 (n * b4)), wrap64 (a5 + wrap64 (n * b5)), wrap64 (a6 + wrap64 (n * b6)), true) := rfl
  rw [hL, fn7_0, fn7_0]
  by_cases hB : allR [b0, b1, b2, b3, b4, b5, b6] = true
  · obtain ⟨e0, e1, e2, e3, e4, e5, e6⟩ := hc hB
    rw [e0, e1, e2, e3, e4, e5, e6] at ho ⊢
    by_cases h : allR [a0, a1, a2, a3, a4, a5, a6] = true ∧ allR [c0, c1, c2, c3, c4, c5, c6] = true
    · rw [if_pos ⟨by rw [h.1, hB]; rfl, h.2⟩, if_pos ⟨h.1, hB, h.2⟩, ho]
    · rw [if_neg (fun h' => h ⟨by simpa [hB] using h'.1, h'.2⟩), if_neg (fun h' => h ⟨h'.1, h'.2.2⟩)]
      rfl
  · rw [if_neg (fun h' => hB (by have := h'.1; simp only [Bool.and_eq_true] at this; exact this.2)), if_neg (fun h' => hB h'.2.1)]
    rfl
theorem add_same (a0 a1 a2 a3 a4 a5 a6 b0 b1 b2 b3 b4 b5 b6 : Int) : dims_Add.f a0 a1 a2 a3 a4 a5 a6 b0 b1 b2 b3 b4 b5 b6 = drachmref03_Add.f a0 a1 a2 a3 a4 a5 a6 b0 b1 b2 b3 b4 b5 b6 1 := by
  refine addN_same _ _ _ _ _ _ _ _ _ _ _ _ _ _ 1 _ _ _ _ _ _ _ fun hB => ?_
  have hb := all7_of hB
  have e : ∀ a b : Int, -99 ≤ b ∧ b ≤ 99 → wrap64 (a + wrap64 (1 * b)) = wrap64 (a + b) := fun a b h => by rw [Int.one_mul, wrap_small b (by omega) (by omega)]
  exact ⟨e _ _ hb.1, e _ _ hb.2.1, e _ _ hb.2.2.1, e _ _ hb.2.2.2.1, e _ _ hb.2.2.2.2.1, e _ _ hb.2.2.2.2.2.1, e _ _ hb.2.2.2.2.2.2⟩
theorem sub_same (a0 a1 a2 a3 a4 a5 a6 b0 b1 b2 b3 b4 b5 b6 : Int) : dims_Sub.f a0 a1 a2 a3 a4 a5 a6 b0 b1 b2 b3 b4 b5 b6 = drachmref03_Add.f a0 a1 a2 a3 a4 a5 a6 b0 b1 b2 b3 b4 b5 b6 (-1) := by
  refine addN_same _ _ _ _ _ _ _ _ _ _ _ _ _ _ (-1) _ _ _ _ _ _ _ fun hB => ?_
  have hb := all7_of hB
  have e : ∀ a b : Int, -99 ≤ b ∧ b ≤ 99 → wrap64 (a + wrap64 (-1 * b)) = wrap64 (a - b) := fun a b h => by rw [show -1 * b = -b from by omega, wrap_small (-b) (by omega) (by omega), ← Int.sub_eq_add_neg]
  exact ⟨e _ _ hb.1, e _ _ hb.2.1, e _ _ hb.2.2.1, e _ _ hb.2.2.2.1, e _ _ hb.2.2.2.2.1, e _ _ hb.2.2.2.2.2.1, e _ _ hb.2.2.2.2.2.2⟩
theorem accT_at (f : Nat → Int) (n : Int) : ∀ k q, accT f n k q = if q < k then wrap64 (f q * n) else 0
  | 0, q => by rw [if_neg (by omega)]; rfl
  | k + 1, q => by
    show (if f k = 0 then accT f n k else upd (accT f n k) k (wrap64 (f k * n))) q = _
    have ih := accT_at f n k q
    by_cases h0 : f k = 0
    · rw [if_pos h0, ih]
      by_cases hq : q < k
      · rw [if_pos hq, if_pos (by omega)]
      · rw [if_neg hq]
        by_cases hq1 : q < k + 1
        · rw [if_pos hq1, show q = k from by omega, h0, Int.zero_mul, wrap_small 0 (by decide) (by decide)]
        · rw [if_neg hq1]
    · rw [if_neg h0]
      show (if q = k then wrap64 (f k * n) else accT f n k q) = _
      by_cases hq : q = k
      · rw [if_pos hq, if_pos (by omega), hq]
      · rw [if_neg hq, ih]
        by_cases hq1 : q < k
        · rw [if_pos hq1, if_pos (by omega)]
        · rw [if_neg hq1, if_neg (by omega)]
theorem few_iff (a0 a1 a2 a3 a4 a5 a6 n : Int) : few a0 a1 a2 a3 a4 a5 a6 n = true ↔ ∀ q : Fin 7, fn7 a0 a1 a2 a3 a4 a5 a6 q.1 = 0 ∨ -99 ≤ n ∧ n ≤ 99 := by
  unfold few
  simp only [List.all_cons, List.all_nil, Bool.and_true, Bool.or_eq_true, Bool.and_eq_true, decide_eq_true_eq, beq_iff_eq]
  constructor
  · rintro (h | ⟨h0, h1, h2, h3, h4, h5, h6⟩) q
    · exact .inr h
    · left
      obtain ⟨q, hq⟩ := q
      have : q = 0 ∨ q = 1 ∨ q = 2 ∨ q = 3 ∨ q = 4 ∨ q = 5 ∨ q = 6 := by omega
      rcases this with rfl | rfl | rfl | rfl | rfl | rfl | rfl <;> assumption
  · intro h
    by_cases hn : -99 ≤ n ∧ n ≤ 99
    · exact .inl hn
    · have g := fun q => (h q).resolve_right hn
      exact .inr ⟨g 0, g 1, g 2, g 3, g 4, g 5, g 6⟩
theorem times_same (a0 a1 a2 a3 a4 a5 a6 n : Int) : dims_Times.f a0 a1 a2 a3 a4 a5 a6 n = drachmref03_Times.f a0 a1 a2 a3 a4 a5 a6 n := by
  unfold dims_Times.f drachmref03_Times.f gotT eachP
  have e := accT_at (fn7 a0 a1 a2 a3 a4 a5 a6) n 7
  have hL : L7 (accT (fn7 a0 a1 a2 a3 a4 a5 a6) n 7) = [wrap64 (a0 * n), wrap64 (a1 * n), wrap64 (a2 * n), wrap64 (a3 * n), wrap64 (a4 * n), wrap64 (a5 * n), wrap64 (a6 * n)] := by
    unfold L7
    rw [e 0, e 1, e 2, e 3, e 4, e 5, e 6]; rfl
  have ho : out8 (accT (fn7 a0 a1 a2 a3 a4 a5 a6) n 7, true) = (wrap64 (a0 * n), wrap64 (a1 * n), wrap64 (a2 * n), wrap64 (a3 * n), wrap64 (a4 * n), wrap64 (a5 * n), wrap64 (a6 * n), true) := by
    unfold out8
    dsimp only
    rw [e 0, e 1, e 2, e 3, e 4, e 5, e 6]; rfl
  rw [hL, fn7_0]
  by_cases h : allR [a0, a1, a2, a3, a4, a5, a6] = true ∧ few a0 a1 a2 a3 a4 a5 a6 n = true ∧ allR [wrap64 (a0 * n), wrap64 (a1 * n), wrap64 (a2 * n), wrap64 (a3 * n), wrap64 (a4 * n), wrap64 (a5 * n), wrap64 (a6 * n)] = true
  · rw [if_pos ⟨by rw [h.1, h.2.1]; rfl, h.2.2⟩, if_pos ⟨h.1, (few_iff ..).1 h.2.1, h.2.2⟩, ho]
  · rw [if_neg (fun h' => h ⟨by have := h'.1; simp only [Bool.and_eq_true] at this; exact this.1, by have := h'.1; simp only [Bool.and_eq_true] at this; exact this.2, h'.2⟩), if_neg (fun h' => h ⟨h'.1, (few_iff ..).2 h'.2.1, h'.2.2⟩)]
    rfl
theorem add_some (a0 a1 a2 a3 a4 a5 a6 b0 b1 b2 b3 b4 b5 b6 n : Int) : ∃ x, drachmref03_Add.f a0 a1 a2 a3 a4 a5 a6 b0 b1 b2 b3 b4 b5 b6 n = some x := ⟨_, rfl⟩
theorem times_some (a0 a1 a2 a3 a4 a5 a6 n : Int) : ∃ x, drachmref03_Times.f a0 a1 a2 a3 a4 a5 a6 n = some x := ⟨_, rfl⟩
end Go.Proofs.YtclpbnfcajbmkaaDoor.Di
