/- StylePlain's plain law: for any number and any two texts the law's function answers true. Its conditions: none beyond the sizes that every row has. -/
import Derived.Test.YtgcaelopcdpkgaaDoorPStylePlainx1
import Derived.Test.YtgcaelopcdpkgaaDoorV1
namespace Go.Proofs.YtgcaelopcdpkgaaDoor.Pure
open Go.RowKit Go.Proofs.YtgcaelopcdpkgaaDoor.PStylePlain Go.Proofs.YtgcaelopcdpkgaaDoorW.PrintWords Go.Proofs.YtgcaelopcdpkgaaDoorW.PrintLast

theorem StylePlain : drachmlaw07_StylePlain.Pure := by
  intro n a b _ _ _
  obtain ⟨r, er, h0, h1⟩ := rest_eq n 5 (by omega) (by omega)
  obtain ⟨s, es, hs⟩ := short_eq a
  obtain ⟨t, et, ht⟩ := short_eq b
  obtain ⟨x, hx⟩ := of_some (wrap64 (1 + r))
  refine ⟨10, ?_⟩
  unfold drachmlaw07_StylePlain.f
  have hst : (s ++ t).size ≤ 1000 := by rw [ByteArray.size_append]; omega
  rw [awake_true 0, bs_, er, bs_, es, bs_, et, bs_, hx, bs_, if_pos rfl, if_pos (by omega), plain_f _ _ hst hx, bs_, plain_f _ s (by omega) hx, bs_, plain_f _ t (by omega) hx, bs_, plain_f _ (⟨#[]⟩ : ByteArray) (by decide) hx, bs_, app, List.all_append]
  have e : bytesOf (⟨#[]⟩ : ByteArray) = [] := rfl
  rw [e, List.all_nil]
  generalize (bytesOf s).all _ = p
  generalize (bytesOf t).all _ = q
  generalize (x.2.2.2.2.1 != 0) = o
  cases p <;> cases q <;> cases o <;> rfl
end Go.Proofs.YtgcaelopcdpkgaaDoor.Pure
