/- StyleApart's plain law: for any number the law's function answers true. Its conditions: none beyond the sizes that every row has. -/
import Derived.Test.YtgcaelopcdpkgaaDoorPStyleApartx1
import Derived.Test.YtgcaelopcdpkgaaDoorV1
namespace Go.Proofs.YtgcaelopcdpkgaaDoor.Pure
open Go.RowKit Go.Proofs.YtgcaelopcdpkgaaDoor.PStyleApart Go.Proofs.YtgcaelopcdpkgaaDoor.PBase Go.Proofs.YtgcaelopcdpkgaaDoorW.PrintWords Go.Proofs.YtgcaelopcdpkgaaDoorW.PrintLast
theorem apart1 : drachmlaw07_StyleApart.l0 60 true 1 true 0 false 46 47 0 123 125 46 47 0 123 125 4 5 6 9 10 = some true := by decide +kernel
theorem apart2 : drachmlaw07_StyleApart.l0 60 true 2 true 0 true 46 47 0 123 125 46 47 0 123 125 4 5 6 9 10 = some true := by decide +kernel
theorem apart3 : drachmlaw07_StyleApart.l0 60 true 3 true 0 false 42 47 94 60 62 42 47 94 60 62 4 5 6 9 10 = some true := by decide +kernel
theorem apart4 : drachmlaw07_StyleApart.l0 60 true 4 true 0 true 46 47 0 0 0 46 47 0 0 0 4 5 6 9 10 = some true := by decide +kernel
theorem apart5 : drachmlaw07_StyleApart.l0 60 true 5 true 0 false 46 47 94 0 0 46 47 94 0 0 4 5 6 9 10 = some true := by decide +kernel
theorem awake60 : drachmlaw07_awake.f 60 = some true := awake_true 50
theorem of1 : style_Of.f 1 = some (false, 46, 47, 0, 123, 125, true) := by simp [style_Of.f]
theorem of2 : style_Of.f 2 = some (true, 46, 47, 0, 123, 125, true) := by simp [style_Of.f]
theorem of3 : style_Of.f 3 = some (false, 42, 47, 94, 60, 62, true) := by simp [style_Of.f]
theorem of4 : style_Of.f 4 = some (true, 46, 47, 0, 0, 0, true) := by simp [style_Of.f]
theorem of5 : style_Of.f 5 = some (false, 46, 47, 94, 0, 0, true) := by simp [style_Of.f]
theorem StyleApart : drachmlaw07_StyleApart.Pure := by
  intro n _
  obtain ⟨r, er, h0, h1⟩ := rest_eq n 5 (by omega) (by omega)
  refine ⟨60, ?_⟩
  unfold drachmlaw07_StyleApart.f
  rw [awake60, bs_, er, bs_, w64 (by omega) (by omega)]
  have : r = 0 ∨ r = 1 ∨ r = 2 ∨ r = 3 ∨ r = 4 := by omega
  rcases this with rfl | rfl | rfl | rfl | rfl
  · rw [show (1 : Int) + 0 = 1 from rfl, of1, bs_]; exact apart1
  · rw [show (1 : Int) + 1 = 2 from rfl, of2, bs_]; exact apart2
  · rw [show (1 : Int) + 2 = 3 from rfl, of3, bs_]; exact apart3
  · rw [show (1 : Int) + 3 = 4 from rfl, of4, bs_]; exact apart4
  · rw [show (1 : Int) + 4 = 5 from rfl, of5, bs_]; exact apart5
end Go.Proofs.YtgcaelopcdpkgaaDoor.Pure
