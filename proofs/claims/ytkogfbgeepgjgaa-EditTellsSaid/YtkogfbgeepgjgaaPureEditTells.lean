/- EditTells' plain law: for any two texts and any number the law's function answers true. Its conditions: none beyond the sizes that every row has. -/
import Derived.Test.YtkogfbgeepgjgaaPEditTellsx2
import Derived.Test.YtkogfbgeepgjgaaV5
namespace Go.Proofs.Ytkogfbgeepgjgaa.Pure
open Go.RowKit Go.Proofs.Ytkogfbgeepgjgaa.PEditTells Go.Proofs.YtkogfbgeepgjgaaW.PrintWords Go.Proofs.YtkogfbgeepgjgaaW.PrintLast

theorem awake_is : drachmlaw16_awake.f = some true := awake_true
theorem EditTells : drachmlaw16_EditTells.Pure := by
  intro a0 a1 kk _ _ _
  obtain ⟨a, ea, ha⟩ := short_eq a0
  obtain ⟨b, eb, hb⟩ := short_eq a1
  have hd := refDist_ev a b (by omega) (by omega)
  have w1 := within_eq a b kk (by omega) (by omega)
  have w2 := within_eq a b (Go.bits .and .i64 kk 3) (by omega) (by omega)
  have ed := edit_Distance_f a b (by omega) (by omega)
  refine Ev.rounds ?_
  generalize hk : Go.bits .and .i64 kk 3 = k3 at *
  obtain ⟨K, hK⟩ := hd
  refine ⟨K, fun k hk' => ?_⟩
  have hr : PBase.drachmref16_Distance.f k a b = some (dL a b : Int) := hK k hk'
  show drachmlaw16_EditTells.f k a0 a1 kk = some true
  unfold drachmlaw16_EditTells.f
  rw [awake_is, Option.bind_some, ea, Option.bind_some, eb, Option.bind_some, hr, Option.bind_some, w1, Option.bind_some, hk, w2, Option.bind_some, ed, Option.bind_some]
  clear w1 w2 hr hK ed
  rw [if_pos rfl, if_pos rfl]
  by_cases h1 : (dL a b : Int) ≤ kk <;> by_cases h2 : (dL a b : Int) ≤ k3 <;> simp [h1, h2]
end Go.Proofs.Ytkogfbgeepgjgaa.Pure
