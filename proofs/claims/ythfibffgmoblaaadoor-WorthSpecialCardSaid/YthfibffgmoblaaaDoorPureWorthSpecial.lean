/- WorthSpecial's plain law: for any two worths by numbers, any tag and any power the law's function answers true. No conditions beyond the sizes that every row has. -/
import Derived.Test.YthfibffgmoblaaaDoorPWorthSpecialx
import Derived.Test.YthfibffgmoblaaaDoorWo3
import Derived.Test.YthfibffgmoblaaaDoorWo1d
import Derived.Test.YthfibffgmoblaaaDoorWo1p
namespace Go.Proofs.YthfibffgmoblaaaDoor.Pure
open Go.RowKit Go.Proofs.YthfibffgmoblaaaDoor Go.Proofs.YthfibffgmoblaaaDoor.Fr Go.Proofs.YthfibffgmoblaaaDoor.Tx Go.Proofs.YthfibffgmoblaaaDoor.Wh Go.Proofs.YthfibffgmoblaaaDoor.Di Go.Proofs.YthfibffgmoblaaaDoor.Wo Go.Proofs.YthfibffgmoblaaaDoor.PB Go.Proofs.YthfibffgmoblaaaDoor.PC Go.Proofs.YthfibffgmoblaaaDoor.PD Go.Proofs.YthfibffgmoblaaaDoor.PO Go.Proofs.YthfibffgmoblaaaDoor.PQ Go.Proofs.YthfibffgmoblaaaDoor.PR Go.Proofs.YthfibffgmoblaaaDoor.PS Go.Proofs.YthfibffgmoblaaaDoor.PT Go.Proofs.YthfibffgmoblaaaDoor.PX Go.Proofs.YthfibffgmoblaaaDoorW.PrintWords Go.Proofs.YthfibffgmoblaaaDoorW.PrintLast Go.Proofs.YthfibffgmoblaaaDoorW.PrintMore Go.Proofs.YthfibffgmoblaaaDoor.PWorthSpecial
set_option linter.unusedVariables false
theorem tag_rng (n : Int) : 1 ≤ wrap64 (1 + (Int.tmod (wrap64 ((Int.tmod n 99) + 99)) 99)) ∧ wrap64 (1 + (Int.tmod (wrap64 ((Int.tmod n 99) + 99)) 99)) ≤ 99 := by
  have h1 := Int.tmod_lt_of_pos n (show (0 : Int) < 99 by decide)
  have h2 := Int.lt_tmod_of_pos n (show (0 : Int) < 99 by decide)
  have hw : wrap64 (Int.tmod n 99 + 99) = Int.tmod n 99 + 99 := wrap_in (by omega) (by omega)
  have h3 := Int.tmod_nonneg 99 (show 0 ≤ Int.tmod n 99 + 99 by omega)
  have h4 := Int.tmod_lt_of_pos (Int.tmod n 99 + 99) (show (0 : Int) < 99 by decide)
  rw [hw]
  have hw2 : wrap64 (1 + Int.tmod (Int.tmod n 99 + 99) 99) = 1 + Int.tmod (Int.tmod n 99 + 99) 99 := wrap_in (by omega) (by omega)
  rw [hw2]
  omega
theorem WorthSpecial : drachmlaw04_WorthSpecial.Pure := by
  intro a0 a1 a2 a3 a4 a5 a6 a7 a8 a9 a10 a11 a12 a13 a14 a15 a16 a17 a18 a19 a20 a21 n m h0 h1 h2 h3 h4 h5 h6 h7 h8 h9 h10 h11 h12 h13 h14 h15 h16 h17 h18 h19 h20 h21 h22 h23
  obtain ⟨a, p1, s1, _⟩ := Spec_ev a0 a1 a2 a3 a4 a5 a6 a7 a8 a9 a10 (i64_of h0) (i64_of h1)
  obtain ⟨b, p2, s2, z2⟩ := Spec_ev a11 a12 a13 a14 a15 a16 a17 a18 a19 a20 0 (i64_of h11) (i64_of h12)
  obtain ⟨T, hT⟩ : ∃ T, wrap64 (1 + (Int.tmod (wrap64 ((Int.tmod n 99) + 99)) 99)) = T := ⟨_, rfl⟩
  have hr := tag_rng n
  rw [hT] at hr
  have R1 : RT (a.1, a.2.1, a.2.2.1, a.2.2.2.1, a.2.2.2.2.1, a.2.2.2.2.2.1, a.2.2.2.2.2.2.1, a.2.2.2.2.2.2.2.1, a.2.2.2.2.2.2.2.2.1, a.2.2.2.2.2.2.2.2.2.1, T) = true := by
    show (RD a.1 a.2.1 a.2.2.1 && (allR (ds a) && (decide (0 ≤ T) && decide (T ≤ 99)))) = true
    rw [s1.rd, (bd_iff _).2 (bd_mono s1.b (by decide)), decide_eq_true (show 0 ≤ T by omega), decide_eq_true (show T ≤ 99 from hr.2)]
    rfl
  have R2 := s2.rt
  have hT0 : ¬ T = 0 := by omega
  have O1 : O64 (a.1, a.2.1, a.2.2.1, a.2.2.2.1, a.2.2.2.2.1, a.2.2.2.2.2.1, a.2.2.2.2.2.2.1, a.2.2.2.2.2.2.2.1, a.2.2.2.2.2.2.2.2.1, a.2.2.2.2.2.2.2.2.2.1, T) := s1.o
  have m1 : Ev (fun k => worth_Mul.f k a.1 a.2.1 a.2.2.1 a.2.2.2.1 a.2.2.2.2.1 a.2.2.2.2.2.1 a.2.2.2.2.2.2.1 a.2.2.2.2.2.2.2.1 a.2.2.2.2.2.2.2.2.1 a.2.2.2.2.2.2.2.2.2.1 T b.1 b.2.1 b.2.2.1 b.2.2.2.1 b.2.2.2.2.1 b.2.2.2.2.2.1 b.2.2.2.2.2.2.1 b.2.2.2.2.2.2.2.1 b.2.2.2.2.2.2.2.2.1 b.2.2.2.2.2.2.2.2.2.1 b.2.2.2.2.2.2.2.2.2.2) (noW 18) := by
    obtain ⟨r, _, e⟩ := WMul_ev (a.1, a.2.1, a.2.2.1, a.2.2.2.1, a.2.2.2.2.1, a.2.2.2.2.2.1, a.2.2.2.2.2.2.1, a.2.2.2.2.2.2.2.1, a.2.2.2.2.2.2.2.2.1, a.2.2.2.2.2.2.2.2.2.1, T) b O1 s2.o
    rwa [show mayW (a.1, a.2.1, a.2.2.1, a.2.2.2.1, a.2.2.2.2.1, a.2.2.2.2.2.1, a.2.2.2.2.2.2.1, a.2.2.2.2.2.2.2.1, a.2.2.2.2.2.2.2.2.1, a.2.2.2.2.2.2.2.2.2.1, T) b (comb r _) = noW 18 from (if_pos R1).trans ((if_pos R2).trans (if_neg (fun q => hT0 q.1)))] at e
  have m2 : Ev (fun k => worth_Mul.f k b.1 b.2.1 b.2.2.1 b.2.2.2.1 b.2.2.2.2.1 b.2.2.2.2.2.1 b.2.2.2.2.2.2.1 b.2.2.2.2.2.2.2.1 b.2.2.2.2.2.2.2.2.1 b.2.2.2.2.2.2.2.2.2.1 b.2.2.2.2.2.2.2.2.2.2 a.1 a.2.1 a.2.2.1 a.2.2.2.1 a.2.2.2.2.1 a.2.2.2.2.2.1 a.2.2.2.2.2.2.1 a.2.2.2.2.2.2.2.1 a.2.2.2.2.2.2.2.2.1 a.2.2.2.2.2.2.2.2.2.1 T) (noW 18) := by
    obtain ⟨r, _, e⟩ := WMul_ev b (a.1, a.2.1, a.2.2.1, a.2.2.2.1, a.2.2.2.2.1, a.2.2.2.2.2.1, a.2.2.2.2.2.2.1, a.2.2.2.2.2.2.2.1, a.2.2.2.2.2.2.2.2.1, a.2.2.2.2.2.2.2.2.2.1, T) s2.o O1
    rwa [show mayW b (a.1, a.2.1, a.2.2.1, a.2.2.2.1, a.2.2.2.2.1, a.2.2.2.2.2.1, a.2.2.2.2.2.2.1, a.2.2.2.2.2.2.2.1, a.2.2.2.2.2.2.2.2.1, a.2.2.2.2.2.2.2.2.2.1, T) (comb r _) = noW 18 from (if_pos R2).trans ((if_pos R1).trans (if_neg (fun q => hT0 q.2)))] at e
  have d1 : Ev (fun k => worth_Div.f k b.1 b.2.1 b.2.2.1 b.2.2.2.1 b.2.2.2.2.1 b.2.2.2.2.2.1 b.2.2.2.2.2.2.1 b.2.2.2.2.2.2.2.1 b.2.2.2.2.2.2.2.2.1 b.2.2.2.2.2.2.2.2.2.1 b.2.2.2.2.2.2.2.2.2.2 a.1 a.2.1 a.2.2.1 a.2.2.2.1 a.2.2.2.2.1 a.2.2.2.2.2.1 a.2.2.2.2.2.2.1 a.2.2.2.2.2.2.2.1 a.2.2.2.2.2.2.2.2.1 a.2.2.2.2.2.2.2.2.2.1 T) (noW 18) := by
    obtain ⟨r, _, e⟩ := WDiv_ev b (a.1, a.2.1, a.2.2.1, a.2.2.2.1, a.2.2.2.2.1, a.2.2.2.2.2.1, a.2.2.2.2.2.2.1, a.2.2.2.2.2.2.2.1, a.2.2.2.2.2.2.2.2.1, a.2.2.2.2.2.2.2.2.2.1, T) s2.o O1
    rwa [show mayW b (a.1, a.2.1, a.2.2.1, a.2.2.2.1, a.2.2.2.2.1, a.2.2.2.2.2.1, a.2.2.2.2.2.2.1, a.2.2.2.2.2.2.2.1, a.2.2.2.2.2.2.2.2.1, a.2.2.2.2.2.2.2.2.2.1, T) (comb r _) = noW 18 from (if_pos R2).trans ((if_pos R1).trans (if_neg (fun q => hT0 q.2)))] at e
  have d2 : Ev (fun k => worth_Div.f k a.1 a.2.1 a.2.2.1 a.2.2.2.1 a.2.2.2.2.1 a.2.2.2.2.2.1 a.2.2.2.2.2.2.1 a.2.2.2.2.2.2.2.1 a.2.2.2.2.2.2.2.2.1 a.2.2.2.2.2.2.2.2.2.1 T b.1 b.2.1 b.2.2.1 b.2.2.2.1 b.2.2.2.2.1 b.2.2.2.2.2.1 b.2.2.2.2.2.2.1 b.2.2.2.2.2.2.2.1 b.2.2.2.2.2.2.2.2.1 b.2.2.2.2.2.2.2.2.2.1 b.2.2.2.2.2.2.2.2.2.2) (noW 18) := by
    obtain ⟨r, _, e⟩ := WDiv_ev (a.1, a.2.1, a.2.2.1, a.2.2.2.1, a.2.2.2.2.1, a.2.2.2.2.2.1, a.2.2.2.2.2.2.1, a.2.2.2.2.2.2.2.1, a.2.2.2.2.2.2.2.2.1, a.2.2.2.2.2.2.2.2.2.1, T) b O1 s2.o
    rwa [show mayW (a.1, a.2.1, a.2.2.1, a.2.2.2.1, a.2.2.2.2.1, a.2.2.2.2.2.1, a.2.2.2.2.2.2.1, a.2.2.2.2.2.2.2.1, a.2.2.2.2.2.2.2.2.1, a.2.2.2.2.2.2.2.2.2.1, T) b (comb r _) = noW 18 from (if_pos R1).trans ((if_pos R2).trans (if_neg (fun q => hT0 q.1)))] at e
  have q1 := Int.tmod_lt_of_pos m (show (0 : Int) < 100 by decide)
  have q2 := Int.lt_tmod_of_pos m (show (0 : Int) < 100 by decide)
  have pw : Ev (fun k => worth_Pow.f k a.1 a.2.1 a.2.2.1 a.2.2.2.1 a.2.2.2.2.1 a.2.2.2.2.2.1 a.2.2.2.2.2.2.1 a.2.2.2.2.2.2.2.1 a.2.2.2.2.2.2.2.2.1 a.2.2.2.2.2.2.2.2.2.1 T (Int.tmod m 100)) (noW 18) := by
    obtain ⟨r, _, e⟩ := WPow_ev (a.1, a.2.1, a.2.2.1, a.2.2.2.1, a.2.2.2.2.1, a.2.2.2.2.2.1, a.2.2.2.2.2.2.1, a.2.2.2.2.2.2.2.1, a.2.2.2.2.2.2.2.2.1, a.2.2.2.2.2.2.2.2.2.1, T) (Int.tmod m 100) O1
    rwa [show powW (a.1, a.2.1, a.2.2.1, a.2.2.2.1, a.2.2.2.2.1, a.2.2.2.2.2.1, a.2.2.2.2.2.2.1, a.2.2.2.2.2.2.2.1, a.2.2.2.2.2.2.2.2.1, a.2.2.2.2.2.2.2.2.2.1, T) (Int.tmod m 100) (comb r _) = noW 18 from (if_neg (by omega)).trans ((if_pos R1).trans (if_neg hT0))] at e
  have rt : Ev (fun k => worth_Right.f k a.1 a.2.1 a.2.2.1 a.2.2.2.1 a.2.2.2.2.1 a.2.2.2.2.2.1 a.2.2.2.2.2.2.1 a.2.2.2.2.2.2.2.1 a.2.2.2.2.2.2.2.2.1 a.2.2.2.2.2.2.2.2.2.1 T) true := by
    have e := worth_Right_ev (a.1, a.2.1, a.2.2.1, a.2.2.2.1, a.2.2.2.2.1, a.2.2.2.2.2.1, a.2.2.2.2.2.2.1, a.2.2.2.2.2.2.2.1, a.2.2.2.2.2.2.2.2.1, a.2.2.2.2.2.2.2.2.2.1, T) O1
    rwa [R1] at e
  refine Ev.rounds ?_
  unfold drachmlaw04_WorthSpecial.f
  rw [hT]
  refine awake_ev.bind (p1.bind (p2.bind (m1.bind (m2.bind (d1.bind (d2.bind (pw.bind ?_)))))))
  exact Ev.congr (f := fun k => (worth_Right.f k a.1 a.2.1 a.2.2.1 a.2.2.2.1 a.2.2.2.2.1 a.2.2.2.2.2.1 a.2.2.2.2.2.2.1 a.2.2.2.2.2.2.2.1 a.2.2.2.2.2.2.2.2.1 a.2.2.2.2.2.2.2.2.2.1 T).bind fun t192 => some t192) (fun k => rfl) (rt.bind (Ev.now _))
end Go.Proofs.YthfibffgmoblaaaDoor.Pure
