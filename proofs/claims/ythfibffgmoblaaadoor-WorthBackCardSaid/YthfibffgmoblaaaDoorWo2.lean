/- A worth's text: what the code tells, and the document. Conditions: numbers of 64 bits. -/
import Derived.Test.YthfibffgmoblaaaDoorWo1
import Derived.Test.YthfibffgmoblaaaDoorTx2
import Derived.Test.YthfibffgmoblaaaDoorPXx
namespace Go.Proofs.YthfibffgmoblaaaDoor.Wo
open Go.RowKit Go.Lib Go.Proofs.YthfibffgmoblaaaDoor Go.Proofs.YthfibffgmoblaaaDoor.Fr Go.Proofs.YthfibffgmoblaaaDoor.Tx Go.Proofs.YthfibffgmoblaaaDoor.Wh Go.Proofs.YthfibffgmoblaaaDoor.Di Go.Proofs.YthfibffgmoblaaaDoor.PB Go.Proofs.YthfibffgmoblaaaDoor.PC Go.Proofs.YthfibffgmoblaaaDoor.PD Go.Proofs.YthfibffgmoblaaaDoor.PO Go.Proofs.YthfibffgmoblaaaDoor.PR Go.Proofs.YthfibffgmoblaaaDoor.PS Go.Proofs.YthfibffgmoblaaaDoor.PT Go.Proofs.YthfibffgmoblaaaDoor.PX Go.Proofs.YthfibffgmoblaaaDoorW.PrintWords Go.Proofs.YthfibffgmoblaaaDoorW.PrintLast Go.Proofs.YthfibffgmoblaaaDoorW.PrintMore
set_option linter.unusedVariables false
theorem RT_parts {a : W11} (h : RT a = true) : RD a.1 a.2.1 a.2.2.1 = true ∧ allR (ds a) = true ∧ 0 ≤ tg a ∧ tg a ≤ 99 := by
  unfold RT at h
  simp only [Bool.and_eq_true, decide_eq_true_eq] at h
  exact ⟨h.1, h.2.1, h.2.2.1, h.2.2.2⟩
/-- The text of dims, and of a tag. -/
def dz (a : W11) : List UInt8 := dtx (nz (ds a) 7)
def tz (a : W11) : List UInt8 := if tg a = 0 then [] else 32 :: 35 :: itoa (tg a)
def wtx (a : W11) : List UInt8 := if RT a = true then txt a.1 a.2.1 a.2.2.1 ++ ((if dz a = [] then [] else 32 :: dz a) ++ tz a) else []
theorem dz_len {a : W11} (h : allR (ds a) = true) : (dz a).length ≤ 200 := by
  have e : ds a = L7 (fun i => (ds a)[i]?.getD 0) := rfl
  have := dtx_len (fun i => (ds a)[i]?.getD 0) (e ▸ h) 7 (by decide)
  unfold dz
  rw [e]; omega
theorem txt_len {n d t : Int} (hr : RD n d t = true) (id : I64 d) : (txt n d t).length ≤ 65 := by
  obtain ⟨f1, f2, f3, _⟩ := RD_fit hr id
  have h1 := itoa_len f1
  have h2 := itoa_len f2
  have h3 := itoa_len f3
  unfold txt
  simp only [List.length_append]
  have a1 : (if d = 1 then ([] : List UInt8) else 47 :: itoa d).length ≤ 22 := by split <;> simp <;> omega
  have a2 : (if t = 0 then ([] : List UInt8) else 101 :: itoa t).length ≤ 22 := by split <;> simp <;> omega
  omega
theorem fit99 {t : Int} (h : 0 ≤ t ∧ t ≤ 99) : Fit t := by unfold Fit; omega
theorem WText_ev (a : W11) (i : O64 a) : Ev (fun k => worth_Text.f k a.1 a.2.1 a.2.2.1 a.2.2.2.1 a.2.2.2.2.1 a.2.2.2.2.2.1 a.2.2.2.2.2.2.1 a.2.2.2.2.2.2.2.1 a.2.2.2.2.2.2.2.2.1 a.2.2.2.2.2.2.2.2.2.1 a.2.2.2.2.2.2.2.2.2.2) (B (wtx a)) := by
  refine Ev.congr (fun k => rfl) ((worth_Right_ev a i).bind ?_)
  by_cases h : RT a = true
  · obtain ⟨hr, hA, ht0, ht9⟩ := RT_parts h
    have l1 := txt_len hr i.2
    have l2 := dz_len hA
    have l3 := itoa_len (fit99 ⟨ht0, ht9⟩)
    have tx : text a.1 a.2.1 a.2.2.1 = txt a.1 a.2.1 a.2.2.1 := if_pos hr
    refine Ev.congr (fun k => if_pos h) ((FText_ev (t := a.2.2.1) i.1 i.2).bind ?_)
    rw [tx]
    refine Ev.congr (f := fun _ => some (B (wtx a))) (fun k => ?_) (Ev.now _)
    have hd : dims_Text.f a.2.2.2.1 a.2.2.2.2.1 a.2.2.2.2.2.1 a.2.2.2.2.2.2.1 a.2.2.2.2.2.2.2.1 a.2.2.2.2.2.2.2.2.1 a.2.2.2.2.2.2.2.2.2.1 = some (B (dz a)) := congrArg some (if_pos hA)
    rw [hd, bs_, B_list]
    have e1 : (⟨#[32, 35]⟩ : ByteArray) = B [32, 35] := rfl
    have e2 : (⟨#[32]⟩ : ByteArray) = B [32] := rfl
    rw [e1, e2]
    unfold wtx tz
    rw [if_pos h]
    by_cases hz : dz a = []
    · rw [if_pos hz, if_pos hz]
      by_cases ht : tg a = 0
      · rw [if_pos ht]
        refine (if_pos (show a.2.2.2.2.2.2.2.2.2.2 = 0 from ht)).trans ?_
        simp
      · rw [if_neg ht]
        refine (if_neg (show ¬ a.2.2.2.2.2.2.2.2.2.2 = 0 from ht)).trans ?_
        rw [show strconv_Itoa.f (a.2.2.2.2.2.2.2.2.2.2) = some (B (itoa (tg a))) from Ito_eq (fit99 ⟨ht0, ht9⟩), bs_, if_pos (by rw [B_size]; omega), if_pos (by rw [B_app]; simp only [B_size, List.length_append, List.length_cons, List.length_nil]; omega), B_app, B_app]
        simp
    · rw [if_neg hz, if_neg hz, if_pos (by rw [B_size]; omega), if_pos (by rw [B_app]; simp only [B_size, List.length_append, List.length_cons, List.length_nil]; omega)]
      by_cases ht : tg a = 0
      · rw [if_pos ht]
        refine (if_pos (show a.2.2.2.2.2.2.2.2.2.2 = 0 from ht)).trans ?_
        rw [B_app, B_app]
        simp
      · rw [if_neg ht]
        refine (if_neg (show ¬ a.2.2.2.2.2.2.2.2.2.2 = 0 from ht)).trans ?_
        rw [show strconv_Itoa.f (a.2.2.2.2.2.2.2.2.2.2) = some (B (itoa (tg a))) from Ito_eq (fit99 ⟨ht0, ht9⟩), bs_, if_pos (by rw [B_size]; omega), if_pos (by rw [B_app, B_app, B_app]; simp only [B_size, List.length_append, List.length_cons, List.length_nil]; omega), B_app, B_app, B_app, B_app]
        simp
  · unfold wtx
    rw [if_neg h]
    exact Ev.congr (f := fun _ => some (B [])) (fun k => if_neg h) (Ev.now _)
end Go.Proofs.YthfibffgmoblaaaDoor.Wo
