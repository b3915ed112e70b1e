/- DimsTells' plain law: for any dims, any number and any text the law's function answers true. Its conditions: none beyond the sizes that every row has. -/
import Derived.Test.YtclpbnfcajbmkaaDoorPDimsTellsx3
import Derived.Test.YtclpbnfcajbmkaaDoorTy5
namespace Go.Proofs.YtclpbnfcajbmkaaDoor.Pure
open Go Go.RowKit Go.Proofs.YtclpbnfcajbmkaaDoor Go.Proofs.YtclpbnfcajbmkaaDoor.Di Go.Proofs.YtclpbnfcajbmkaaDoor.PQ Go.Proofs.YtclpbnfcajbmkaaDoor.PDimsTells Go.Proofs.YtclpbnfcajbmkaaDoorW.PrintWords Go.Proofs.YtclpbnfcajbmkaaDoorW.PrintLast
set_option linter.unusedSimpArgs false
theorem tells_true (k : Nat) (hk : 12 ≤ k) (a0 a1 a2 a3 a4 a5 a6 b0 b1 b2 b3 b4 b5 b6 n : Int) : drachmlaw03_tells.f k a0 a1 a2 a3 a4 a5 a6 b0 b1 b2 b3 b4 b5 b6 n = some true := by
  unfold drachmlaw03_tells.f
  rw [add_same, sub_same, times_same, reftext_fn _ _ _ _ _ _ _ k hk, text_fn]
  obtain ⟨x, hx⟩ := add_some a0 a1 a2 a3 a4 a5 a6 b0 b1 b2 b3 b4 b5 b6 1
  obtain ⟨y, hy⟩ := add_some a0 a1 a2 a3 a4 a5 a6 b0 b1 b2 b3 b4 b5 b6 (-1)
  obtain ⟨z, hz⟩ := times_some a0 a1 a2 a3 a4 a5 a6 n
  have hr : dims_Right.f a0 a1 a2 a3 a4 a5 a6 = some (allR [a0, a1, a2, a3, a4, a5, a6]) := rfl
  have hr' : drachmref03_Right.f a0 a1 a2 a3 a4 a5 a6 = some (allR [a0, a1, a2, a3, a4, a5, a6]) := rfl
  rw [hx, hy, hz, hr, hr']
  simp only [Option.bind_some, beq_self_eq_true, Bool.and_self, if_true]
theorem tells_at (k : Nat) (hk : 12 ≤ k) (n : Int) (s : ByteArray) (hs : s.size ≤ 40) (a0 a1 a2 a3 a4 a5 a6 b0 b1 b2 b3 b4 b5 b6 : Int) : drachmlaw03_DimsTells.j0 (k + 1) n s true a0 a1 a2 a3 a4 a5 a6 b0 b1 b2 b3 b4 b5 b6 = some true := by
  rw [drachmlaw03_DimsTells.j0, dimsRead_val s (Nat.le_trans hs (by decide)), refRead_val s (Nat.le_trans hs (by decide))]
  simp only [Option.bind_some, beq_self_eq_true, Bool.and_self, if_true, tells_true k hk, near_val _ _ _ _ _ _ _ 99 (by decide), near_val _ _ _ _ _ _ _ 50 (by decide), near_val _ _ _ _ _ _ _ 49 (by decide)]
theorem DimsTells : drachmlaw03_DimsTells.Pure := by
  intro a0 a1 a2 a3 a4 a5 a6 b0 b1 b2 b3 b4 b5 b6 n s _ _ _ _ _ _ _ _ _ _ _ _ _ _ _ hs
  refine ⟨13, ?_⟩
  unfold drachmlaw03_DimsTells.f
  rw [awake_val, Option.bind_some]
  by_cases h : (s.size : Int) > 40
  · rw [if_pos h, if_pos (by decide), if_pos (by omega)]
    exact tells_at 12 (by decide) n _ (by rw [ByteArray.size_extract]; omega) _ _ _ _ _ _ _ _ _ _ _ _ _ _
  · rw [if_neg h]
    exact tells_at 12 (by decide) n s (by omega) _ _ _ _ _ _ _ _ _ _ _ _ _ _
end Go.Proofs.YtclpbnfcajbmkaaDoor.Pure
