/- Worths: what comes of two right ones without a tag. No conditions beyond those in each theorem. -/
import Derived.Test.YthfibffgmoblaaaDoorWo2
namespace Go.Proofs.YthfibffgmoblaaaDoor.Wo
open Go.RowKit Go.Proofs.YthfibffgmoblaaaDoor Go.Proofs.YthfibffgmoblaaaDoor.Fr Go.Proofs.YthfibffgmoblaaaDoor.Tx Go.Proofs.YthfibffgmoblaaaDoor.Wh Go.Proofs.YthfibffgmoblaaaDoor.Di Go.Proofs.YthfibffgmoblaaaDoor.PB Go.Proofs.YthfibffgmoblaaaDoor.PC Go.Proofs.YthfibffgmoblaaaDoor.PD Go.Proofs.YthfibffgmoblaaaDoor.PO Go.Proofs.YthfibffgmoblaaaDoor.PR Go.Proofs.YthfibffgmoblaaaDoor.PS Go.Proofs.YthfibffgmoblaaaDoor.PT Go.Proofs.YthfibffgmoblaaaDoor.PX Go.Proofs.YthfibffgmoblaaaDoorW.PrintWords Go.Proofs.YthfibffgmoblaaaDoorW.PrintLast Go.Proofs.YthfibffgmoblaaaDoorW.PrintMore
set_option linter.unusedVariables false
theorem addD_ok {m p : Int} {a b : W11} (h : bd m (ds a)) (k : bd p (ds b)) (hm : m ≤ 99) (hp : p ≤ 99) (hmp : m + p ≤ 99) : addD a b = (a.2.2.2.1 + b.2.2.2.1, a.2.2.2.2.1 + b.2.2.2.2.1, a.2.2.2.2.2.1 + b.2.2.2.2.2.1, a.2.2.2.2.2.2.1 + b.2.2.2.2.2.2.1, a.2.2.2.2.2.2.2.1 + b.2.2.2.2.2.2.2.1, a.2.2.2.2.2.2.2.2.1 + b.2.2.2.2.2.2.2.2.1, a.2.2.2.2.2.2.2.2.2.1 + b.2.2.2.2.2.2.2.2.2.1, true) := by
  unfold addD
  rw [add_ok h k hm hp hmp]
  rfl
theorem addD_comm {a b : W11} (h : bd 99 (ds a)) (k : bd 99 (ds b)) : addD a b = addD b a := by
  unfold addD
  rw [add_comm_val h k]
theorem RT_bd {a : W11} (h : RT a = true) : RD a.1 a.2.1 a.2.2.1 = true ∧ bd 99 (ds a) := by
  have := RT_parts h
  exact ⟨this.1, (bd_iff _).1 this.2.1⟩
/-- A worth that is right, without a tag. -/
structure Ok (a : W11) : Prop where
  rt : RT a = true
  t : tg a = 0
  o : O64 a
theorem Sp.ok {a : W11} (h : Sp a) (ht : tg a = 0) : Ok a := ⟨h.rt, ht, h.o⟩
theorem mul_ok {a b : W11} (ha : Ok a) (hb : Ok b) : ∃ r, MulS a.1 a.2.1 a.2.2.1 b.1 b.2.1 b.2.2.1 r ∧ Ev (fun k => worth_Mul.f k a.1 a.2.1 a.2.2.1 a.2.2.2.1 a.2.2.2.2.1 a.2.2.2.2.2.1 a.2.2.2.2.2.2.1 a.2.2.2.2.2.2.2.1 a.2.2.2.2.2.2.2.2.1 a.2.2.2.2.2.2.2.2.2.1 a.2.2.2.2.2.2.2.2.2.2 b.1 b.2.1 b.2.2.1 b.2.2.2.1 b.2.2.2.2.1 b.2.2.2.2.2.1 b.2.2.2.2.2.2.1 b.2.2.2.2.2.2.2.1 b.2.2.2.2.2.2.2.2.1 b.2.2.2.2.2.2.2.2.2.1 b.2.2.2.2.2.2.2.2.2.2) (comb r (addD a b)) := by
  obtain ⟨r, s, e⟩ := WMul_ev a b ha.o hb.o
  rw [show mayW a b (comb r (addD a b)) = comb r (addD a b) from (if_pos ha.rt).trans ((if_pos hb.rt).trans (if_pos ⟨ha.t, hb.t⟩))] at e
  exact ⟨r, s, e⟩
theorem eachP_flag (v0 v1 v2 v3 v4 v5 v6 : Int) : ((eachP true v0 v1 v2 v3 v4 v5 v6).2.2.2.2.2.2.2 = true ∧ eachP true v0 v1 v2 v3 v4 v5 v6 = (v0, v1, v2, v3, v4, v5, v6, true) ∧ bd 99 [v0, v1, v2, v3, v4, v5, v6]) ∨ ((eachP true v0 v1 v2 v3 v4 v5 v6).2.2.2.2.2.2.2 = false ∧ ¬ bd 99 [v0, v1, v2, v3, v4, v5, v6]) := by
  by_cases h : bd 99 [v0, v1, v2, v3, v4, v5, v6]
  · rw [eachP_ok _ _ _ _ _ _ _ h]; exact .inl ⟨rfl, rfl, h⟩
  · rw [eachP_no _ _ _ _ _ _ _ h]; exact .inr ⟨rfl, h⟩
/-- What a call of worth hands back, as a worth. -/
def fst11 (x : W12) : W11 := (x.1, x.2.1, x.2.2.1, x.2.2.2.1, x.2.2.2.2.1, x.2.2.2.2.2.1, x.2.2.2.2.2.2.1, x.2.2.2.2.2.2.2.1, x.2.2.2.2.2.2.2.2.1, x.2.2.2.2.2.2.2.2.2.1, x.2.2.2.2.2.2.2.2.2.2.1)
theorem comb_ok {r : R4} {d : D8} (hr : r.2.2.2 = 0) (hd : d.2.2.2.2.2.2.2 = true) (o : RD r.1 r.2.1 r.2.2.1 = (r.2.2.2 == 0)) (i1 : I64 r.1) (i2 : I64 r.2.1) (hb : bd 99 [d.1, d.2.1, d.2.2.1, d.2.2.2.1, d.2.2.2.2.1, d.2.2.2.2.2.1, d.2.2.2.2.2.2.1]) : Ok (fst11 (comb r d)) ∧ (comb r d).2.2.2.2.2.2.2.2.2.2.2 = 0 ∧ fst11 (comb r d) = (r.1, r.2.1, r.2.2.1, d.1, d.2.1, d.2.2.1, d.2.2.2.1, d.2.2.2.2.1, d.2.2.2.2.2.1, d.2.2.2.2.2.2.1, 0) := by
  have hc : comb r d = (r.1, r.2.1, r.2.2.1, d.1, d.2.1, d.2.2.1, d.2.2.2.1, d.2.2.2.2.1, d.2.2.2.2.2.1, d.2.2.2.2.2.2.1, 0, 0) := by
    unfold comb
    rw [if_pos hr, if_pos hd]
  rw [hc]
  refine ⟨⟨?_, rfl, i1, i2⟩, rfl, rfl⟩
  unfold RT
  rw [show RD (fst11 (r.1, r.2.1, r.2.2.1, d.1, d.2.1, d.2.2.1, d.2.2.2.1, d.2.2.2.2.1, d.2.2.2.2.2.1, d.2.2.2.2.2.2.1, 0, 0)).1 (fst11 (r.1, r.2.1, r.2.2.1, d.1, d.2.1, d.2.2.1, d.2.2.2.1, d.2.2.2.2.1, d.2.2.2.2.2.1, d.2.2.2.2.2.2.1, 0, 0)).2.1 (fst11 (r.1, r.2.1, r.2.2.1, d.1, d.2.1, d.2.2.1, d.2.2.2.1, d.2.2.2.2.1, d.2.2.2.2.2.1, d.2.2.2.2.2.2.1, 0, 0)).2.2.1 = true from (show RD r.1 r.2.1 r.2.2.1 = true from by rw [o, hr]; rfl)]
  rw [show allR (ds (fst11 (r.1, r.2.1, r.2.2.1, d.1, d.2.1, d.2.2.1, d.2.2.2.1, d.2.2.2.2.1, d.2.2.2.2.2.1, d.2.2.2.2.2.2.1, 0, 0))) = true from (bd_iff _).2 hb]
  rfl
theorem comb_err {r : R4} {d : D8} (h : ¬ (r.2.2.2 = 0 ∧ d.2.2.2.2.2.2.2 = true)) (he : r.2.2.2 = 0 ∨ r.2.2.2 = 10) : comb r d = noW 10 := by
  unfold comb
  by_cases z : r.2.2.2 = 0
  · rw [if_pos z, if_neg (fun q => h ⟨z, q⟩)]
  · rw [if_neg z]
    rcases he with e | e
    · exact absurd e z
    · rw [e]
end Go.Proofs.YthfibffgmoblaaaDoor.Wo
