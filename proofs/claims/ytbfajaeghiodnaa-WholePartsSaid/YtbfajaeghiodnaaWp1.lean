/- Prime divisors, told in a row: the plain form, and that the document comes to it. Conditions: those in each theorem. -/
import Derived.Test.YtbfajaeghiodnaaV3
import Derived.Test.YtbfajaeghiodnaaPRx
namespace Go.Proofs.Ytbfajaeghiodnaa
open Go.RowKit Go.Proofs.Ytbfajaeghiodnaa.PR Go.Proofs.YtbfajaeghiodnaaW.PrintWords Go.Proofs.YtbfajaeghiodnaaW.PrintLast Go.Proofs.YtbfajaeghiodnaaW.PrintMore
set_option linter.unusedVariables false
/-- The divisors of what is left, from p on, in d rounds. -/
def pl : Nat → Int → Int → List S39
  | 0, _, _ => []
  | d + 1, left, p =>
    if p ≤ 1048576 ∧ p * p ≤ left then
      (if (splitF left p).1 > 0 then ⟨p, (splitF left p).1⟩ :: pl d (splitF left p).2 (p + 1) else pl d left (p + 1))
    else if left > 1 then [⟨left, 1⟩] else []
theorem splitL_facts (b : Int) (hb : 2 ≤ b) : ∀ (n : Nat) (x k : Int), 1 ≤ x → x.natAbs ≤ n → 0 ≤ k → 1 ≤ (splitL n x b k).2 ∧ (splitL n x b k).2 ≤ x ∧ k ≤ (splitL n x b k).1 ∧ (splitL n x b k).1 ≤ k + n ∧ ((splitL n x b k).1 ≤ k → (splitL n x b k).2 = x) := by
  intro n
  induction n with
  | zero => intro x k h1 h2 h3; exact ⟨h1, Int.le_refl _, Int.le_refl _, by show k ≤ k + ((0 : Nat) : Int); omega, fun _ => rfl⟩
  | succ n ih =>
    intro x k h1 h2 h3
    unfold splitL
    by_cases hd : Int.tmod x b = 0
    · rw [if_pos hd]
      have ht := tdiv_lt (by omega) hb hd
      have hp : 0 ≤ Int.tdiv x b := Int.tdiv_nonneg (by omega) (by omega)
      have h := ih (Int.tdiv x b) (k + 1) (by have := ht.2.1; omega) (by omega) (by omega)
      refine ⟨h.1, by have := h.2.1; omega, by have := h.2.2.1; omega, by have := h.2.2.2.1; omega, fun hk => ?_⟩
      have := h.2.2.1
      omega
    · rw [if_neg hd]
      exact ⟨h1, Int.le_refl _, Int.le_refl _, by show k ≤ k + ((n + 1 : Nat) : Int); omega, fun _ => rfl⟩
theorem splitF_facts (x b : Int) (hb : 2 ≤ b) (h1 : 1 ≤ x) : 1 ≤ (splitF x b).2 ∧ (splitF x b).2 ≤ x ∧ 0 ≤ (splitF x b).1 ∧ (splitF x b).1 ≤ x ∧ ((splitF x b).1 ≤ 0 → (splitF x b).2 = x) := by
  unfold splitF
  rw [if_neg (by omega)]
  have h := splitL_facts b hb x.natAbs x 0 h1 (Nat.le_refl _) (Int.le_refl _)
  exact ⟨h.1, h.2.1, h.2.2.1, by have := h.2.2.2.1; omega, h.2.2.2.2⟩
/-- What is told goes through with what was told ahead of it: the document's loop. -/
theorem refParts_ev : ∀ (d : Nat) (left p : Int) (out : List S39), 1 ≤ left → left ≤ 1099511627776 → 2 ≤ p → p ≤ 1048577 → 1048578 - p ≤ d → (out.length : Int) ≤ p → Ev (fun k => drachmref01_Parts.l0 k left out p) (out ++ pl d left p) := by
  intro d
  induction d with
  | zero => intro left p out h1 h2 h3 h4 h5; omega
  | succ d ih =>
    intro left p out h1 h2 h3 h4 h5 h6
    have hpp : p * p ≤ 1048577 * 1048577 := Int.mul_le_mul h4 h4 (by omega) (by decide)
    have hp0 : 0 ≤ p * p := Int.mul_nonneg (by omega) (by omega)
    have hw : wrap64 (p * p) = p * p := w64 (by omega) (by omega)
    have hl : out.length < 8796093022208 := by omega
    refine Ev.step (f := fun k => drachmref01_Parts.j2 k left out p (decide (p ≤ 1048576 ∧ p * p ≤ left))) (fun k => ?_) ?_
    · simp only [drachmref01_Parts.l0]
      by_cases hp : p ≤ 1048576
      · rw [if_pos hp, hw]
        congr 1
        simp [hp]
      · rw [if_neg hp]
        congr 1
        simp [hp]
    · unfold pl
      by_cases hc : p ≤ 1048576 ∧ p * p ≤ left
      · rw [if_pos hc, decide_eq_true hc]
        have hs := splitF_facts left p h3 h1
        have e1 := refSplit_ev left p ⟨by omega, by omega⟩
        by_cases h0 : (splitF left p).1 > 0
        · rw [if_pos h0]
          have e2 := ih (splitF left p).2 (p + 1) (out ++ [⟨p, (splitF left p).1⟩]) hs.1 (by omega) (by omega) (by omega) (by omega) (by simp; omega)
          rw [List.append_assoc, List.singleton_append] at e2
          refine Ev.step (f := fun k => (PBase.drachmref01_Split.f k left p).bind fun bt135 => (if bt135.1 > 0 then (if out.length < 8796093022208 then (drachmref01_Parts.l0 k bt135.2 (out ++ [(⟨p, bt135.1⟩ : S39)]) (wrap64 (p + 1))) else (none)) else (drachmref01_Parts.l0 k left out (wrap64 (p + 1))))) (fun k => ?_) ?_
          · simp only [drachmref01_Parts.j2, if_true]
          · refine Ev.bind e1 ?_
            refine Ev.congr (f := fun k => drachmref01_Parts.l0 k (splitF left p).2 (out ++ [⟨p, (splitF left p).1⟩]) (p + 1)) (fun k => ?_) e2
            rw [if_pos h0, if_pos hl, w64 (x := p + 1) (by omega) (by omega)]
        · rw [if_neg h0]
          have e2 := ih left (p + 1) out h1 h2 (by omega) (by omega) (by omega) (by omega)
          refine Ev.step (f := fun k => (PBase.drachmref01_Split.f k left p).bind fun bt135 => (if bt135.1 > 0 then (if out.length < 8796093022208 then (drachmref01_Parts.l0 k bt135.2 (out ++ [(⟨p, bt135.1⟩ : S39)]) (wrap64 (p + 1))) else (none)) else (drachmref01_Parts.l0 k left out (wrap64 (p + 1))))) (fun k => ?_) ?_
          · simp only [drachmref01_Parts.j2, if_true]
          · refine Ev.bind e1 ?_
            refine Ev.congr (f := fun k => drachmref01_Parts.l0 k left out (p + 1)) (fun k => ?_) e2
            rw [if_neg h0, w64 (x := p + 1) (by omega) (by omega)]
      · rw [if_neg hc, decide_eq_false hc]
        refine Ev.step (f := fun _ => some (out ++ (if left > 1 then [⟨left, 1⟩] else []))) (fun k => ?_) (Ev.now _)
        simp only [drachmref01_Parts.j2]
        rw [if_neg (by decide)]
        by_cases hg : left > 1
        · rw [if_pos hg, if_pos hl, if_pos hg]
        · rw [if_neg hg, if_neg hg, List.append_nil]
/-- All of a number's divisors. -/
def plN (x : Int) : List S39 := if x = 0 then [] else pl 1048576 (x.natAbs : Int) 2
theorem refPartsN (x : Int) (h : -1099511627776 ≤ x ∧ x ≤ 1099511627776) : Ev (fun k => drachmref01_Parts.f k x) (plN x) := by
  unfold plN
  by_cases h0 : x = 0
  · rw [if_pos h0]
    subst h0
    refine Ev.congr (f := fun k => drachmref01_Parts.j0 k 0 true) (fun k => ?_) (Ev.step (f := fun _ => some []) (fun k => ?_) (Ev.now _))
    · unfold drachmref01_Parts.f PBase.drachmref01_Fits.f
      rfl
    · simp only [drachmref01_Parts.j0]
      rfl
  · rw [if_neg h0]
    have e := refParts_ev 1048576 (x.natAbs : Int) 2 [] (by omega) (by omega) (by omega) (by omega) (by omega) (by simp)
    rw [List.nil_append] at e
    refine Ev.congr (f := fun k => drachmref01_Parts.j0 k x false) (fun k => ?_) (Ev.step (fun k => ?_) e)
    · unfold drachmref01_Parts.f PBase.drachmref01_Fits.f
      rw [bs_, if_pos (decide_eq_true (by omega)), beq_eq_false_iff_ne.2 h0]
    · simp only [drachmref01_Parts.j0]
      rw [if_neg (by decide)]
      have hsz : PBase.drachmref01_size.f x = some (x.natAbs : Int) := by
        unfold PBase.drachmref01_size.f
        by_cases hn : x < 0
        · rw [if_pos hn, w64 (x := -x) (by omega) (by omega)]; congr 1; omega
        · rw [if_neg hn]; congr 1; omega
      rw [hsz, bs_]
end Go.Proofs.Ytbfajaeghiodnaa
