/- The chapter's example, and words for the laws of dims. No conditions but those in each theorem. -/
import Derived.Test.YtclpbnfcajbmkaaDoorTy3
import Derived.Test.YtclpbnfcajbmkaaDoorPQx2
namespace Go.Proofs.YtclpbnfcajbmkaaDoor.Di
open Go Go.RowKit Go.Proofs Go.Proofs.YtclpbnfcajbmkaaDoor Go.Proofs.YtclpbnfcajbmkaaDoor.PB Go.Proofs.YtclpbnfcajbmkaaDoor.PQ Go.Proofs.YtclpbnfcajbmkaaDoorW.PrintWords Go.Proofs.YtclpbnfcajbmkaaDoorW.PrintLast Go.Proofs.YtclpbnfcajbmkaaDoorW.PrintMore
set_option linter.unusedSimpArgs false
set_option linter.unusedVariables false
theorem awake_read : dims_Read.f ⟨#[109, 49, 115, 45, 50]⟩ = some (1, -2, 0, 0, 0, 0, 0, true) := by
  have h : textOf (fn7 1 (-2) 0 0 0 0 0) = ⟨#[109, 49, 115, 45, 50]⟩ := by kernel_rfl
  rw [← h, dimsRead_val _ (Nat.le_trans (textOf_size _) (by decide)), readV_text _ (by decide), out8_cut]
  rfl
theorem awake_val : drachmlaw03_awake.f = some true := by
  unfold drachmlaw03_awake.f
  rw [awake_read, Option.bind_some]
  have h : textOf (fn7 1 (-2) 0 0 0 0 0) = ⟨#[109, 49, 115, 45, 50]⟩ := by kernel_rfl
  rw [text_fn, h, Option.bind_some, toL]
  rfl
theorem near_val (a0 a1 a2 a3 a4 a5 a6 m : Int) (h : 0 ≤ m ∧ m ≤ 1000) : drachmlaw03_near.f a0 a1 a2 a3 a4 a5 a6 m = some (tm m a0, tm m a1, tm m a2, tm m a3, tm m a4, tm m a5, tm m a6) := if_pos h
end Go.Proofs.YtclpbnfcajbmkaaDoor.Di
