/- WorthTexts' plain law: for any two worths by numbers the law's function answers true. No conditions beyond the sizes that every row has. -/
import Derived.Test.YthfibffgmoblaaaDoorPWorthTextsx
import Derived.Test.YthfibffgmoblaaaDoorWo3
import Derived.Test.YthfibffgmoblaaaDoorWo4
import Derived.Test.YthfibffgmoblaaaDoorTx2r
namespace Go.Proofs.YthfibffgmoblaaaDoor.Pure
open Go.RowKit Go.Proofs.YthfibffgmoblaaaDoor Go.Proofs.YthfibffgmoblaaaDoor.Fr Go.Proofs.YthfibffgmoblaaaDoor.Tx Go.Proofs.YthfibffgmoblaaaDoor.Wh Go.Proofs.YthfibffgmoblaaaDoor.Di Go.Proofs.YthfibffgmoblaaaDoor.Wo Go.Proofs.YthfibffgmoblaaaDoor.PB Go.Proofs.YthfibffgmoblaaaDoor.PC Go.Proofs.YthfibffgmoblaaaDoor.PD Go.Proofs.YthfibffgmoblaaaDoor.PO Go.Proofs.YthfibffgmoblaaaDoor.PQ Go.Proofs.YthfibffgmoblaaaDoor.PR Go.Proofs.YthfibffgmoblaaaDoor.PS Go.Proofs.YthfibffgmoblaaaDoor.PT Go.Proofs.YthfibffgmoblaaaDoor.PX Go.Proofs.YthfibffgmoblaaaDoorW.PrintWords Go.Proofs.YthfibffgmoblaaaDoorW.PrintLast Go.Proofs.YthfibffgmoblaaaDoorW.PrintMore Go.Proofs.YthfibffgmoblaaaDoor.PE Go.Proofs.YthfibffgmoblaaaDoor.PWorthTexts
set_option linter.unusedVariables false
theorem eqW (a b : W11) : ((a.1 == b.1 && (a.2.1 == b.2.1 && (a.2.2.1 == b.2.2.1))) && ((a.2.2.2.1 == b.2.2.2.1 && (a.2.2.2.2.1 == b.2.2.2.2.1 && (a.2.2.2.2.2.1 == b.2.2.2.2.2.1 && (a.2.2.2.2.2.2.1 == b.2.2.2.2.2.2.1 && (a.2.2.2.2.2.2.2.1 == b.2.2.2.2.2.2.2.1 && (a.2.2.2.2.2.2.2.2.1 == b.2.2.2.2.2.2.2.2.1 && (a.2.2.2.2.2.2.2.2.2.1 == b.2.2.2.2.2.2.2.2.2.1))))))) && (a.2.2.2.2.2.2.2.2.2.2 == b.2.2.2.2.2.2.2.2.2.2))) = true ↔ a = b := by
  obtain ⟨x0, x1, x2, x3, x4, x5, x6, x7, x8, x9, x10⟩ := a
  obtain ⟨y0, y1, y2, y3, y4, y5, y6, y7, y8, y9, y10⟩ := b
  simp only [Bool.and_eq_true, beq_iff_eq, Prod.mk.injEq, and_assoc]
theorem eq_of {a b : W11} (h : (a.1 = b.1 ∧ a.2.1 = b.2.1 ∧ a.2.2.1 = b.2.2.1) ∧ ds a = ds b ∧ tg a = tg b) : a = b := by
  obtain ⟨x0, x1, x2, x3, x4, x5, x6, x7, x8, x9, x10⟩ := a
  obtain ⟨y0, y1, y2, y3, y4, y5, y6, y7, y8, y9, y10⟩ := b
  simp only [ds, tg, List.cons.injEq, and_true] at h
  obtain ⟨⟨rfl, rfl, rfl⟩, ⟨rfl, rfl, rfl, rfl, rfl, rfl, rfl⟩, rfl⟩ := h
  rfl
theorem WorthTexts : drachmlaw04_WorthTexts.Pure := by
  intro a0 a1 a2 a3 a4 a5 a6 a7 a8 a9 a10 a11 a12 a13 a14 a15 a16 a17 a18 a19 a20 a21 h0 h1 h2 h3 h4 h5 h6 h7 h8 h9 h10 h11 h12 h13 h14 h15 h16 h17 h18 h19 h20 h21
  obtain ⟨a, p1, s1, _⟩ := Spec_ev a0 a1 a2 a3 a4 a5 a6 a7 a8 a9 a10 (i64_of h0) (i64_of h1)
  obtain ⟨b, p2, s2, _⟩ := Spec_ev a11 a12 a13 a14 a15 a16 a17 a18 a19 a20 a21 (i64_of h11) (i64_of h12)
  refine Ev.rounds (Ev.congr (fun k => rfl) (awake_ev.bind (p1.bind (p2.bind ((WText_ev a s1.o).bind ((RText_ev (t := a.2.2.1) s1.o.1 s1.o.2).bind ?_))))))
  refine Ev.congr (fun k => if_pos rfl) ((WText_ev b s2.o).bind ?_)
  rw [show text a.1 a.2.1 a.2.2.1 = txt a.1 a.2.1 a.2.2.1 from if_pos s1.rd]
  have hw : wtx a = txt a.1 a.2.1 a.2.2.1 ++ ((if dz a = [] then [] else 32 :: dz a) ++ tz a) := if_pos s1.rt
  have hl : (txt a.1 a.2.1 a.2.2.1).length ≤ (wtx a).length := by rw [hw, List.length_append]; omega
  refine Ev.congr (f := fun _ => some true) (fun k => ?_) (Ev.now _)
  rw [B_list, B_list, B_size, B_size]
  have hc : ((wtx a == wtx b) == ((a.1 == b.1 && (a.2.1 == b.2.1 && (a.2.2.1 == b.2.2.1))) && ((a.2.2.2.1 == b.2.2.2.1 && (a.2.2.2.2.1 == b.2.2.2.2.1 && (a.2.2.2.2.2.1 == b.2.2.2.2.2.1 && (a.2.2.2.2.2.2.1 == b.2.2.2.2.2.2.1 && (a.2.2.2.2.2.2.2.1 == b.2.2.2.2.2.2.2.1 && (a.2.2.2.2.2.2.2.2.1 == b.2.2.2.2.2.2.2.2.1 && (a.2.2.2.2.2.2.2.2.2.1 == b.2.2.2.2.2.2.2.2.2.1))))))) && (a.2.2.2.2.2.2.2.2.2.2 == b.2.2.2.2.2.2.2.2.2.2)))) = true := by
    by_cases h : a = b
    · rw [(eqW a b).2 h, h]; simp
    · have h2 : wtx a ≠ wtx b := fun q => h (eq_of (wtx_inj s1.rt s2.rt s1.o s2.o q))
      have hE : ((a.1 == b.1 && (a.2.1 == b.2.1 && (a.2.2.1 == b.2.2.1))) && ((a.2.2.2.1 == b.2.2.2.1 && (a.2.2.2.2.1 == b.2.2.2.2.1 && (a.2.2.2.2.2.1 == b.2.2.2.2.2.1 && (a.2.2.2.2.2.2.1 == b.2.2.2.2.2.2.1 && (a.2.2.2.2.2.2.2.1 == b.2.2.2.2.2.2.2.1 && (a.2.2.2.2.2.2.2.2.1 == b.2.2.2.2.2.2.2.2.1 && (a.2.2.2.2.2.2.2.2.2.1 == b.2.2.2.2.2.2.2.2.2.1))))))) && (a.2.2.2.2.2.2.2.2.2.2 == b.2.2.2.2.2.2.2.2.2.2))) = false := by
        cases hq : ((a.1 == b.1 && (a.2.1 == b.2.1 && (a.2.2.1 == b.2.2.1))) && ((a.2.2.2.1 == b.2.2.2.1 && (a.2.2.2.2.1 == b.2.2.2.2.1 && (a.2.2.2.2.2.1 == b.2.2.2.2.2.1 && (a.2.2.2.2.2.2.1 == b.2.2.2.2.2.2.1 && (a.2.2.2.2.2.2.2.1 == b.2.2.2.2.2.2.2.1 && (a.2.2.2.2.2.2.2.2.1 == b.2.2.2.2.2.2.2.2.1 && (a.2.2.2.2.2.2.2.2.2.1 == b.2.2.2.2.2.2.2.2.2.1))))))) && (a.2.2.2.2.2.2.2.2.2.2 == b.2.2.2.2.2.2.2.2.2.2))) with
        | false => rfl
        | true => exact absurd ((eqW a b).1 hq) h
      rw [hE, beq_eq_false_iff_ne.mpr h2]
      rfl
  rw [if_pos hc, if_pos (by omega), if_pos (by omega), if_pos (by omega), Int.toNat_natCast, B_ext, B_list, B_list]
  rw [hw]
  simp
end Go.Proofs.YthfibffgmoblaaaDoor.Pure
