/- FracTexts' plain law: for any numbers, any frac and any text the law's function answers true. Its conditions: none beyond the sizes that every row has. -/
import Derived.Test.YtnndaackjgnhhaaDoorPFracTextsx2
import Derived.Test.YtnndaackjgnhhaaDoorV1
import Derived.Test.YtnndaackjgnhhaaDoorTx5
namespace Go.Proofs.YtnndaackjgnhhaaDoor.Pure
open Go.RowKit Go.Proofs.YtnndaackjgnhhaaDoor.PFracTexts Go.Proofs.YtnndaackjgnhhaaDoor.Tx Go.Proofs.YtnndaackjgnhhaaDoor.Fr Go.Proofs.YtnndaackjgnhhaaDoor.Wh Go.Proofs.YtnndaackjgnhhaaDoor.PB Go.Proofs.YtnndaackjgnhhaaDoor.PC Go.Proofs.YtnndaackjgnhhaaDoor.PD Go.Proofs.YtnndaackjgnhhaaDoor.PE Go.Proofs.YtnndaackjgnhhaaDoor.PT Go.Proofs.YtnndaackjgnhhaaDoorW.PrintWords Go.Proofs.YtnndaackjgnhhaaDoorW.PrintLast
set_option linter.unusedSimpArgs false
theorem FracTexts : drachmlaw02_FracTexts.Pure := by
  intro a b c x y z s h1 h2 h3 h4 h5 h6 hs
  have i1 := i64_of h1
  have i2 := i64_of h2
  have i4 := i64_of h4
  have i5 := i64_of h5
  obtain ⟨n, d, t, e1, rd, j1, j2, _, _⟩ := Spec_ev (c := c) i1 i2
  have key : ∀ l : List UInt8, l.length ≤ 60 → Ev (fun k => drachmlaw02_FracTexts.j0 k (B l) true a b c x y z) true := by
    intro l hl
    obtain ⟨⟨r1, r2, r3, r4⟩, e2, e3, _⟩ := both_read l (by omega)
    obtain ⟨K1, a1⟩ := e1
    obtain ⟨K2, a2⟩ := e2
    obtain ⟨K3, a3⟩ := e3
    obtain ⟨K4, a4⟩ := FText_ev (t := t) j1 j2
    obtain ⟨K5, a5⟩ := RText_ev (t := t) j1 j2
    obtain ⟨K6, a6⟩ := FText_ev (t := z) i4 i5
    obtain ⟨K7, a7⟩ := RText_ev (t := z) i4 i5
    refine ⟨K1 + K2 + K3 + K4 + K5 + K6 + K7 + 1, fun k hk => ?_⟩
    obtain ⟨K, rfl⟩ : ∃ K, k = K + 1 := ⟨k - 1, by omega⟩
    have a1 := a1 K (by omega)
    have a2 := a2 K (by omega)
    have a3 := a3 K (by omega)
    have a4 := a4 K (by omega)
    have a5 := a5 K (by omega)
    have a6 := a6 K (by omega)
    have a7 := a7 K (by omega)
    show drachmlaw02_FracTexts.j0 (K + 1) (B l) true a b c x y z = some true
    simp only at a1 a2 a3 a4 a5 a6 a7
    simp only [drachmlaw02_FracTexts.j0]
    rw [a2, bs_, a3, bs_, if_pos trivial, a1, bs_, a4, bs_, bs_, a5, bs_, if_pos rfl, a6, bs_, a7, bs_, if_pos rfl]
    simp
  have aw := awake_ev
  by_cases hl : s.data.toList.length ≤ 60
  · obtain ⟨K, hK⟩ := Ev.bind (f := fun k t103 => drachmlaw02_FracTexts.j0 k s t103 a b c x y z) aw (by rw [B_of s]; exact key _ hl)
    refine ⟨K, ?_⟩
    have := hK K (Nat.le_refl _)
    have hz : ¬ (s.size : Int) > 60 := by rw [B_of s, B_size]; omega
    unfold drachmlaw02_FracTexts.f
    simp only [if_neg hz]
    exact this
  · obtain ⟨K, hK⟩ := Ev.bind (f := fun k t103 => drachmlaw02_FracTexts.j0 k (s.extract 0 60) t103 a b c x y z) aw (by
      rw [B_of s, B_ext]
      exact key _ (by simp; omega))
    refine ⟨K, ?_⟩
    have := hK K (Nat.le_refl _)
    have hz : (s.size : Int) > 60 := by rw [B_of s, B_size]; omega
    have hz2 : (60 : Int) ≤ (s.size : Int) := by omega
    unfold drachmlaw02_FracTexts.f
    simp only [if_pos hz, if_pos hz2, show (0 : Int) ≤ 60 from by omega, if_true]
    exact this
end Go.Proofs.YtnndaackjgnhhaaDoor.Pure
