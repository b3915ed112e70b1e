/- The text of seven numbers by the document is the text by the program. No conditions but those in each theorem. -/
import Derived.KernelRfl
import Derived.Test.YthfibffgmoblaaaDoorDi7
namespace Go.Proofs.YthfibffgmoblaaaDoor.Di
open Go Go.RowKit Go.Proofs Go.Proofs.YthfibffgmoblaaaDoor Go.Proofs.YthfibffgmoblaaaDoorW.PrintWords Go.Proofs.YthfibffgmoblaaaDoorW.PrintLast Go.Proofs.YthfibffgmoblaaaDoorW.PrintMore
set_option linter.unusedSimpArgs false
theorem allR_iff7 (f : Nat → Int) : allR (L7 f) = true ↔ ∀ q, q < 7 → -99 ≤ f q ∧ f q ≤ 99 := by
  simp only [allR, L7, List.all_cons, List.all_nil, Bool.and_true, Bool.and_eq_true, decide_eq_true_eq]
  constructor
  · rintro ⟨h0, h1, h2, h3, h4, h5, h6⟩ q hq
    have : q = 0 ∨ q = 1 ∨ q = 2 ∨ q = 3 ∨ q = 4 ∨ q = 5 ∨ q = 6 := by omega
    rcases this with rfl | rfl | rfl | rfl | rfl | rfl | rfl <;> assumption
  · intro h
    exact ⟨h 0 (by decide), h 1 (by decide), h 2 (by decide), h 3 (by decide), h 4 (by decide), h 5 (by decide), h 6 (by decide)⟩
theorem wrap_small (x : Int) (h0 : -9223372036854775808 ≤ x) (h1 : x ≤ 9223372036854775807) : wrap64 x = x := by
  unfold wrap64 
  omega
theorem dtx_nz (f : Nat → Int) (j : Nat) (hj : j < 7) : dtx (nz (L7 f) (j + 1)) = if f j = 0 then dtx (nz (L7 f) j) else dtx (nz (L7 f) j) ++ letter j :: Lib.itoa (f j) := by
  have e : (L7 f)[j]?.getD 0 = f j := by
    have : j = 0 ∨ j = 1 ∨ j = 2 ∨ j = 3 ∨ j = 4 ∨ j = 5 ∨ j = 6 := by omega
    rcases this with rfl | rfl | rfl | rfl | rfl | rfl | rfl <;> rfl
  show dtx (if (L7 f)[j]?.getD 0 = 0 then nz (L7 f) j else nz (L7 f) j ++ [(j, (L7 f)[j]?.getD 0)]) = _
  rw [e]
  split
  · rfl
  · rw [dtx_snoc]; simp
theorem dtx_len (f : Nat → Int) (hR : allR (L7 f) = true) : ∀ j, j ≤ 7 → (dtx (nz (L7 f) j)).length ≤ 22 * j
  | 0, _ => Nat.le_refl _
  | j + 1, h => by
    have ih := dtx_len f hR j (by omega)
    have hb := (allR_iff7 f).1 hR j (by omega)
    have hl := Lib.itoa_length_le (f j) (by omega) (by omega)
    rw [dtx_nz f j (by omega)]
    split
    · omega
    · simp; omega
end Go.Proofs.YthfibffgmoblaaaDoor.Di
