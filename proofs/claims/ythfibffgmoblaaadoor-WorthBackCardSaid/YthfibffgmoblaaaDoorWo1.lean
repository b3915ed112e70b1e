/- Worths reckoned with in plain numbers: what the code answers, and the document. Conditions: numbers of 64 bits. -/
import Derived.Test.YthfibffgmoblaaaDoorYm
import Derived.Test.YthfibffgmoblaaaDoorPOx
import Derived.Test.YthfibffgmoblaaaDoorPSx
import Derived.Test.YthfibffgmoblaaaDoorFr11
import Derived.Test.YthfibffgmoblaaaDoorTy6
namespace Go.Proofs.YthfibffgmoblaaaDoor.Wo
open Go.RowKit Go.Proofs.YthfibffgmoblaaaDoor Go.Proofs.YthfibffgmoblaaaDoor.Fr Go.Proofs.YthfibffgmoblaaaDoor.Wh Go.Proofs.YthfibffgmoblaaaDoor.Di Go.Proofs.YthfibffgmoblaaaDoor.PB Go.Proofs.YthfibffgmoblaaaDoor.PC Go.Proofs.YthfibffgmoblaaaDoor.PD Go.Proofs.YthfibffgmoblaaaDoor.PO Go.Proofs.YthfibffgmoblaaaDoor.PR Go.Proofs.YthfibffgmoblaaaDoor.PS Go.Proofs.YthfibffgmoblaaaDoorW.PrintWords Go.Proofs.YthfibffgmoblaaaDoorW.PrintLast Go.Proofs.YthfibffgmoblaaaDoorW.PrintMore
set_option linter.unusedVariables false
abbrev W11 := Int × Int × Int × Int × Int × Int × Int × Int × Int × Int × Int
def O64 (a : W11) : Prop := I64 a.1 ∧ I64 a.2.1
def ds (a : W11) : List Int := [a.2.2.2.1, a.2.2.2.2.1, a.2.2.2.2.2.1, a.2.2.2.2.2.2.1, a.2.2.2.2.2.2.2.1, a.2.2.2.2.2.2.2.2.1, a.2.2.2.2.2.2.2.2.2.1]
def tg (a : W11) : Int := a.2.2.2.2.2.2.2.2.2.2
/-- Is a worth right? -/
def RT (a : W11) : Bool := RD a.1 a.2.1 a.2.2.1 && (allR (ds a) && (decide (0 ≤ tg a) && decide (tg a ≤ 99)))
theorem worth_Right_ev (a : W11) (i : O64 a) : Ev (fun k => worth_Right.f k a.1 a.2.1 a.2.2.1 a.2.2.2.1 a.2.2.2.2.1 a.2.2.2.2.2.1 a.2.2.2.2.2.2.1 a.2.2.2.2.2.2.2.1 a.2.2.2.2.2.2.2.2.1 a.2.2.2.2.2.2.2.2.2.1 a.2.2.2.2.2.2.2.2.2.2) (RT a) := by
  refine Ev.congr (fun k => rfl) ((Right_ev (t := a.2.2.1) i.1 i.2).bind ?_)
  unfold RT
  cases RD a.1 a.2.1 a.2.2.1 with
  | false => exact Ev.congr (f := fun _ => some false) (fun k => if_neg (by simp)) (Ev.now _)
  | true =>
    refine Ev.congr (f := fun _ => some (true && (allR (ds a) && (decide (0 ≤ tg a) && decide (tg a ≤ 99))))) (fun k => ?_) (Ev.now _)
    rw [if_pos rfl]
    show (if allR (ds a) = true then (if tg a ≥ 0 then (some (decide (tg a ≤ 99))) else (some false)) else (some false)) = _
    cases allR (ds a) with
    | false => rw [if_neg (by simp)]; simp
    | true =>
      rw [if_pos rfl]
      by_cases h : tg a ≥ 0
      · rw [if_pos h]; simp [h]
      · rw [if_neg h]; simp [h]
/-- A number and dims put together. -/
def comb (r : R4) (d : D8) : W12 := if r.2.2.2 = 0 then (if d.2.2.2.2.2.2.2 = true then (r.1, r.2.1, r.2.2.1, d.1, d.2.1, d.2.2.1, d.2.2.2.1, d.2.2.2.2.1, d.2.2.2.2.2.1, d.2.2.2.2.2.2.1, 0, 0) else noW 10) else noW r.2.2.2
def mayE (a b : W11) : Int := if RT a = true then (if RT b = true then (if tg a = 0 ∧ tg b = 0 then 0 else 18) else 1) else 1
def mayW (a b : W11) (x : W12) : W12 := if RT a = true then (if RT b = true then (if tg a = 0 ∧ tg b = 0 then x else noW 18) else noW 1) else noW 1
theorem mayW_eq (a b : W11) (x : W12) : mayW a b x = if mayE a b = 0 then x else noW (mayE a b) := by
  unfold mayW mayE
  by_cases h1 : RT a = true
  · rw [if_pos h1, if_pos h1]
    by_cases h2 : RT b = true
    · rw [if_pos h2, if_pos h2]
      by_cases h3 : tg a = 0 ∧ tg b = 0
      · rw [if_pos h3, if_pos h3, if_pos rfl]
      · rw [if_neg h3, if_neg h3, if_neg (by decide)]
    · rw [if_neg h2, if_neg h2, if_neg (by decide)]
  · rw [if_neg h1, if_neg h1, if_neg (by decide)]
def addD (a b : W11) : D8 := (dims_Add.f a.2.2.2.1 a.2.2.2.2.1 a.2.2.2.2.2.1 a.2.2.2.2.2.2.1 a.2.2.2.2.2.2.2.1 a.2.2.2.2.2.2.2.2.1 a.2.2.2.2.2.2.2.2.2.1 b.2.2.2.1 b.2.2.2.2.1 b.2.2.2.2.2.1 b.2.2.2.2.2.2.1 b.2.2.2.2.2.2.2.1 b.2.2.2.2.2.2.2.2.1 b.2.2.2.2.2.2.2.2.2.1).getD (0, 0, 0, 0, 0, 0, 0, false)
theorem addD_eq (a b : W11) : dims_Add.f a.2.2.2.1 a.2.2.2.2.1 a.2.2.2.2.2.1 a.2.2.2.2.2.2.1 a.2.2.2.2.2.2.2.1 a.2.2.2.2.2.2.2.2.1 a.2.2.2.2.2.2.2.2.2.1 b.2.2.2.1 b.2.2.2.2.1 b.2.2.2.2.2.1 b.2.2.2.2.2.2.1 b.2.2.2.2.2.2.2.1 b.2.2.2.2.2.2.2.2.1 b.2.2.2.2.2.2.2.2.2.1 = some (addD a b) := rfl
def subD (a b : W11) : D8 := (dims_Sub.f a.2.2.2.1 a.2.2.2.2.1 a.2.2.2.2.2.1 a.2.2.2.2.2.2.1 a.2.2.2.2.2.2.2.1 a.2.2.2.2.2.2.2.2.1 a.2.2.2.2.2.2.2.2.2.1 b.2.2.2.1 b.2.2.2.2.1 b.2.2.2.2.2.1 b.2.2.2.2.2.2.1 b.2.2.2.2.2.2.2.1 b.2.2.2.2.2.2.2.2.1 b.2.2.2.2.2.2.2.2.2.1).getD (0, 0, 0, 0, 0, 0, 0, false)
theorem subD_eq (a b : W11) : dims_Sub.f a.2.2.2.1 a.2.2.2.2.1 a.2.2.2.2.2.1 a.2.2.2.2.2.2.1 a.2.2.2.2.2.2.2.1 a.2.2.2.2.2.2.2.2.1 a.2.2.2.2.2.2.2.2.2.1 b.2.2.2.1 b.2.2.2.2.1 b.2.2.2.2.2.1 b.2.2.2.2.2.2.1 b.2.2.2.2.2.2.2.1 b.2.2.2.2.2.2.2.2.1 b.2.2.2.2.2.2.2.2.2.1 = some (subD a b) := rfl
def timD (a : W11) (n : Int) : D8 := (dims_Times.f a.2.2.2.1 a.2.2.2.2.1 a.2.2.2.2.2.1 a.2.2.2.2.2.2.1 a.2.2.2.2.2.2.2.1 a.2.2.2.2.2.2.2.2.1 a.2.2.2.2.2.2.2.2.2.1 n).getD (0, 0, 0, 0, 0, 0, 0, false)
theorem timD_eq (a : W11) (n : Int) : dims_Times.f a.2.2.2.1 a.2.2.2.2.1 a.2.2.2.2.2.1 a.2.2.2.2.2.2.1 a.2.2.2.2.2.2.2.1 a.2.2.2.2.2.2.2.2.1 a.2.2.2.2.2.2.2.2.2.1 n = some (timD a n) := rfl
theorem WMul_ev (a b : W11) (ia : O64 a) (ib : O64 b) : ∃ r, MulS a.1 a.2.1 a.2.2.1 b.1 b.2.1 b.2.2.1 r ∧ Ev (fun k => worth_Mul.f k a.1 a.2.1 a.2.2.1 a.2.2.2.1 a.2.2.2.2.1 a.2.2.2.2.2.1 a.2.2.2.2.2.2.1 a.2.2.2.2.2.2.2.1 a.2.2.2.2.2.2.2.2.1 a.2.2.2.2.2.2.2.2.2.1 a.2.2.2.2.2.2.2.2.2.2 b.1 b.2.1 b.2.2.1 b.2.2.2.1 b.2.2.2.2.1 b.2.2.2.2.2.1 b.2.2.2.2.2.2.1 b.2.2.2.2.2.2.2.1 b.2.2.2.2.2.2.2.2.1 b.2.2.2.2.2.2.2.2.2.1 b.2.2.2.2.2.2.2.2.2.2) (mayW a b (comb r (addD a b))) := by
  obtain ⟨r, e, s⟩ := FMul_ev (t := a.2.2.1) (t' := b.2.2.1) ia.1 ia.2 ib.1 ib.2
  refine ⟨r, s, Ev.congr (fun k => rfl) ((worth_Right_ev a ia).bind ?_)⟩
  unfold mayW
  by_cases h1 : RT a = true
  · rw [if_pos h1]
    refine Ev.congr (fun k => by rw [if_pos h1]) ((worth_Right_ev b ib).bind ?_)
    by_cases h2 : RT b = true
    · rw [if_pos h2]
      by_cases h3 : tg a = 0 ∧ tg b = 0
      · rw [if_pos h3]
        refine Ev.congr (fun k => (if_pos h2).trans (if_pos h3)) (e.bind ?_)
        unfold comb
        by_cases z : r.2.2.2 = 0
        · rw [if_pos z, if_pos z]
          exact Ev.congr (fun k => rfl) (Ev.now _)
        · rw [if_neg z, if_neg z]
          exact Ev.now _
      · rw [if_neg h3]
        exact Ev.congr (f := fun _ => some (noW 18)) (fun k => (if_pos h2).trans (if_neg h3)) (Ev.now _)
    · rw [if_neg h2]
      exact Ev.congr (f := fun _ => some (noW 1)) (fun k => if_neg h2) (Ev.now _)
  · rw [if_neg h1]
    exact Ev.congr (f := fun _ => some (noW 1)) (fun k => if_neg h1) (Ev.now _)
theorem WOf_ev (n : Int) (i : I64 n) : ∃ r, MakeS n 1 0 r ∧ Ev (fun k => worth_Of.f k n) (comb r (0, 0, 0, 0, 0, 0, 0, true)) := by
  obtain ⟨r, e, s⟩ := FMake_ev (ten := 0) i (show I64 1 by unfold I64; omega)
  refine ⟨r, s, Ev.congr (fun k => rfl) (e.bind ?_)⟩
  refine Ev.congr (f := fun _ => some (comb r (0, 0, 0, 0, 0, 0, 0, true))) (fun k => ?_) (Ev.now _)
  unfold comb
  by_cases z : r.2.2.2 = 0
  · rw [if_pos z, if_pos z, if_pos rfl]
  · rw [if_neg z, if_neg z]; rfl
/-- What a worth by plain numbers is. -/
structure Sp (a : W11) : Prop where
  rd : RD a.1 a.2.1 a.2.2.1 = true
  o : O64 a
  b : bd 9 (ds a)
  t0 : 0 ≤ tg a
  t3 : tg a ≤ 3
theorem Sp.rt {a : W11} (h : Sp a) : RT a = true := by
  unfold RT
  rw [h.rd, (bd_iff _).2 (bd_mono h.b (by decide)), decide_eq_true h.t0, decide_eq_true (show tg a ≤ 99 by have := h.t3; omega)]
  rfl
theorem Spec_ev (a0 a1 a2 a3 a4 a5 a6 a7 a8 a9 a10 : Int) (i0 : I64 a0) (i1 : I64 a1) : ∃ a : W11, Ev (fun k => drachmref04_Spec_Worth.f k a0 a1 a2 a3 a4 a5 a6 a7 a8 a9 a10) a ∧ Sp a ∧ (a10 = 0 → tg a = 0) := by
  obtain ⟨r, e, s⟩ := RMake_ev (ten := a2) i0 i1
  have out := s.out
  have key : ∀ x y z w : Int, RD x y z = true → I64 x → I64 y → ∃ a : W11, Ev (fun k => drachmref04_Spec_Worth.j0 k a0 a1 a2 a3 a4 a5 a6 a7 a8 a9 a10 x y z w) a ∧ Sp a ∧ (a10 = 0 → tg a = 0) := by
    intro x y z w hr hx hy
    have tm : ∀ q : Int, -9 ≤ Int.tmod q 10 ∧ Int.tmod q 10 ≤ 9 := fun q => by
      have h1 := Int.tmod_lt_of_pos q (show (0 : Int) < 10 by decide)
      have h2 := Int.lt_tmod_of_pos q (show (0 : Int) < 10 by decide)
      omega
    have t8 := Int.tmod_lt_of_pos a10 (show (0 : Int) < 8 by decide)
    have t9 := Int.lt_tmod_of_pos a10 (show (0 : Int) < 8 by decide)
    have hb : bd 9 [Int.tmod a3 10, Int.tmod a4 10, Int.tmod a5 10, Int.tmod a6 10, Int.tmod a7 10, Int.tmod a8 10, Int.tmod a9 10] := by
      intro q hq
      simp only [List.mem_cons, List.not_mem_nil, or_false] at hq
      rcases hq with rfl | rfl | rfl | rfl | rfl | rfl | rfl <;> exact tm _
    have hw : wrap64 (Int.tmod a10 8 + 8) = Int.tmod a10 8 + 8 := wrap_in (by omega) (by omega)
    have tn := Int.tmod_nonneg 8 (show 0 ≤ Int.tmod a10 8 + 8 by omega)
    by_cases h : Int.tmod (wrap64 (Int.tmod a10 8 + 8)) 8 < 4
    · refine ⟨(x, y, z, Int.tmod a3 10, Int.tmod a4 10, Int.tmod a5 10, Int.tmod a6 10, Int.tmod a7 10, Int.tmod a8 10, Int.tmod a9 10, Int.tmod (wrap64 (Int.tmod a10 8 + 8)) 8), Ev.step (f := fun _ => some _) (fun k => ?_) (Ev.now _), ⟨hr, ⟨hx, hy⟩, hb, ?_, ?_⟩, ?_⟩
      · exact if_pos h
      · show 0 ≤ Int.tmod (wrap64 (Int.tmod a10 8 + 8)) 8
        rw [hw]; exact tn
      · show Int.tmod (wrap64 (Int.tmod a10 8 + 8)) 8 ≤ 3
        omega
      · intro h0
        show Int.tmod (wrap64 (Int.tmod a10 8 + 8)) 8 = 0
        rw [hw, h0]; rfl
    · refine ⟨(x, y, z, Int.tmod a3 10, Int.tmod a4 10, Int.tmod a5 10, Int.tmod a6 10, Int.tmod a7 10, Int.tmod a8 10, Int.tmod a9 10, 0), Ev.step (f := fun _ => some _) (fun k => ?_) (Ev.now _), ⟨hr, ⟨hx, hy⟩, hb, by show (0 : Int) ≤ 0; omega, by show (0 : Int) ≤ 3; omega⟩, fun _ => rfl⟩
      exact if_neg h
  by_cases z : r.2.2.2 = 0
  · obtain ⟨a, ha, hs, ht⟩ := key r.1 r.2.1 r.2.2.1 r.2.2.2 (by rw [out.rd, z]; rfl) out.i1 out.i2
    exact ⟨a, Ev.congr (fun k => rfl) (e.bind (Ev.congr (fun k => if_pos z) ha)), hs, ht⟩
  · obtain ⟨a, ha, hs, ht⟩ := key 1 1 0 r.2.2.2 (by decide) (by unfold I64; omega) (by unfold I64; omega)
    exact ⟨a, Ev.congr (fun k => rfl) (e.bind (Ev.congr (fun k => if_neg z) ha)), hs, ht⟩
end Go.Proofs.YthfibffgmoblaaaDoor.Wo
