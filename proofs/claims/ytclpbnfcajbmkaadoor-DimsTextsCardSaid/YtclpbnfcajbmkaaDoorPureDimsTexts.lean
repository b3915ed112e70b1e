/- DimsTexts' plain law: for any dims and any text the law's function answers true. Its conditions: none beyond the sizes that every row has. -/
import Derived.Test.YtclpbnfcajbmkaaDoorPDimsTextsx2
import Derived.Test.YtclpbnfcajbmkaaDoorTy4
namespace Go.Proofs.YtclpbnfcajbmkaaDoor.Pure
open Go Go.RowKit Go.Proofs.YtclpbnfcajbmkaaDoor Go.Proofs.YtclpbnfcajbmkaaDoor.Di Go.Proofs.YtclpbnfcajbmkaaDoor.PQ Go.Proofs.YtclpbnfcajbmkaaDoor.PDimsTexts Go.Proofs.YtclpbnfcajbmkaaDoorW.PrintWords Go.Proofs.YtclpbnfcajbmkaaDoorW.PrintLast
set_option linter.unusedSimpArgs false
theorem texts_at (k : Nat) (s : ByteArray) (hs : s.size ≤ 40) (a0 a1 a2 a3 a4 a5 a6 : Int) : drachmlaw03_DimsTexts.j0 (k + 1) s true a0 a1 a2 a3 a4 a5 a6 = some true := by
  rw [drachmlaw03_DimsTexts.j0, near_val _ _ _ _ _ _ _ _ (by decide), Option.bind_some]
  have hR := tm_99 a0 a1 a2 a3 a4 a5 a6 99 (by decide) (by decide)
  generalize tm 99 a0 = b0 at hR ⊢
  generalize tm 99 a1 = b1 at hR ⊢
  generalize tm 99 a2 = b2 at hR ⊢
  generalize tm 99 a3 = b3 at hR ⊢
  generalize tm 99 a4 = b4 at hR ⊢
  generalize tm 99 a5 = b5 at hR ⊢
  generalize tm 99 a6 = b6 at hR ⊢
  simp only [text_fn, Option.bind_some]
  rw [dimsRead_val _ (Nat.le_trans (textOf_size _) (by decide)), readV_text _ hR, out8_cut, Option.bind_some, dimsRead_val s (Nat.le_trans hs (by decide)), Option.bind_some]
  simp only [out8, fn7, beq_self_eq_true, Bool.and_self, if_true]
  rcases readV_cases s with ⟨f, h1, h2, h3⟩ | h3
  · rw [h3]
    have e : textOf (fn7 (f 0) (f 1) (f 2) (f 3) (f 4) (f 5) (f 6)) = s := h2
    have hr : dims_Right.f (f 0) (f 1) (f 2) (f 3) (f 4) (f 5) (f 6) = some true := congrArg some h1
    simp only [if_true, e, hr, Option.bind_some]
  · rw [h3]
    rfl
theorem DimsTexts : drachmlaw03_DimsTexts.Pure := by
  intro a0 a1 a2 a3 a4 a5 a6 s _ _ _ _ _ _ _ hs
  refine ⟨1, ?_⟩
  unfold drachmlaw03_DimsTexts.f
  rw [awake_val, Option.bind_some]
  by_cases h : (s.size : Int) > 40
  · rw [if_pos h, if_pos (by decide), if_pos (by omega)]
    exact texts_at 0 _ (by rw [ByteArray.size_extract]; omega) _ _ _ _ _ _ _
  · rw [if_neg h]
    exact texts_at 0 s (by omega) _ _ _ _ _ _ _
end Go.Proofs.YtclpbnfcajbmkaaDoor.Pure
