/- StyleTells' plain law: for any number, byte and text the law's function answers true. Its conditions: none beyond the sizes that every row has. -/
import Derived.Test.YtgcaelopcdpkgaaDoorPStyleTellsx3
import Derived.Test.YtgcaelopcdpkgaaDoorV3
namespace Go.Proofs.YtgcaelopcdpkgaaDoor.Pure
open Go.RowKit Go.Proofs.YtgcaelopcdpkgaaDoor.PStyleTells Go.Proofs.YtgcaelopcdpkgaaDoor.PBase Go.Proofs.YtgcaelopcdpkgaaDoor.V3 Go.Proofs.YtgcaelopcdpkgaaDoorW.PrintWords Go.Proofs.YtgcaelopcdpkgaaDoorW.PrintLast
theorem tells_true (k : Nat) (n c : Int) (s : ByteArray) (hs : s.size ≤ 1000) (hk : s.size + 10 < k) (h0 : 0 ≤ c) (h1 : c ≤ 255) : drachmlaw07_tells.f k n c s = some true := by
  obtain ⟨x, hx⟩ := of_some n
  obtain ⟨o1, o2, _⟩ := of_two n hx
  have k1 := kind_f (k - 6) n c hx h0 h1
  have k2 := kind_ref (k - 4) n c hx
  rw [show k - 6 + 6 = k from by omega] at k1
  rw [show k - 4 + 4 = k from by omega] at k2
  unfold drachmlaw07_tells.f
  rw [hx, bs_, o1, bs_, k1, k2, raise_f n s hs hx, raise_ref n s hs hx k (by omega), plain_f n s hs hx, plain_ref n s hs hx k (by omega)]
  simp only [bs_, beq_self_eq_true, Bool.and_self, if_true]
  by_cases a : n ≥ 1
  · rw [if_pos a, if_pos]
    rw [beq_iff_eq, Bool.eq_iff_iff, o2, decide_eq_true_iff]
    omega
  · rw [if_neg a, if_pos]
    have : ¬ (x.2.2.2.2.2.2 = true) := fun h => a (o2.1 h).1
    simpa using this
theorem StyleTells : drachmlaw07_StyleTells.Pure := by
  intro n c a _ hc _
  have hb : 0 ≤ c ∧ c ≤ 255 := by
    have := hc
    simp [Lit.wf, IntKind.min, IntKind.max, IntKind.signed, IntKind.bits] at this
    omega
  obtain ⟨s, es, hs⟩ := short_eq a
  obtain ⟨r, er, h0, h1⟩ := rest_eq n 8 (by omega) (by omega)
  refine ⟨100 + 10, ?_⟩
  have t1 := tells_true (100 + 10) n c s (by omega) (by omega) hb.1 hb.2
  have t2 := tells_true (100 + 10) (wrap64 (r - 1)) c s (by omega) (by omega) hb.1 hb.2
  unfold drachmlaw07_StyleTells.f
  rw [awake_true, bs_, if_pos rfl, es, bs_, t1, bs_, if_pos rfl, er, bs_, t2]
  rfl
end Go.Proofs.YtgcaelopcdpkgaaDoor.Pure
