/- Plain closed forms of what the functions of layer 1 compute. Conditions: the arguments are 64-bit numbers. -/
import Derived.Test.YtbfajaeghiodnaaPBasex
import Derived.Laws.BitsAllLaws
namespace Go.Proofs.Ytbfajaeghiodnaa
open Go.RowKit Go.Proofs.YtbfajaeghiodnaaW.PrintWords Go.Proofs.YtbfajaeghiodnaaW.PrintLast Go.Proofs.YtbfajaeghiodnaaW.PrintMore

/-- As Option.bind_some, but no law that holds by sight: else the kernel compares what the two sides bind. -/
theorem bs_ {α β : Type} (a : α) (f : α → Option β) : (some a).bind f = f a := by
  have h : ∀ o : Option α, o = some a → o.bind f = f a := fun o ho => by cases ho; rfl
  exact h _ rfl
theorem w64 {x : Int} (h : -9223372036854775808 ≤ x) (h2 : x ≤ 9223372036854775807) : wrap64 x = x := by unfold wrap64; omega
theorem wsucc {n : Nat} (h : n < 1000000000000) : wrap64 ((n : Int) + 1) = ((n + 1 : Nat) : Int) := by rw [w64 (by omega) (by omega)]; omega
/-- A 64-bit number. -/
def I64 (x : Int) : Prop := -9223372036854775808 ≤ x ∧ x ≤ 9223372036854775807
def fits (x : Int) : Bool := decide (-9223372036854775807 ≤ x)
theorem Fits_eq (x : Int) : PBase.whole_Fits.f x = some (fits x) := rfl
theorem refFits_eq (x : Int) : PBase.drachmref01_Fits.f x = some (fits x) := rfl
theorem fit_loop (l : List Int) (hl : l.length ≤ 1000) : ∀ (d i k : Nat), i + d = l.length → d < k → PBase.whole_fit.l0 k l l.length i = some ((l.drop i).all fits) := by
  intro d
  induction d with
  | zero =>
    intro i k hi hk
    obtain ⟨k, rfl⟩ : ∃ m, k = m + 1 := ⟨k - 1, by omega⟩
    simp only [PBase.whole_fit.l0]
    rw [if_neg (by omega), List.drop_of_length_le (by omega)]
    rfl
  | succ d ih =>
    intro i k hi hk
    obtain ⟨k, rfl⟩ : ∃ m, k = m + 1 := ⟨k - 1, by omega⟩
    have hlt : i < l.length := by omega
    simp only [PBase.whole_fit.l0]
    rw [if_pos (by omega), if_pos (by omega), if_pos (by omega), Fits_eq, bs_, wsucc (by omega), ih (i + 1) k (by omega) (by omega), List.drop_eq_getElem_cons hlt, List.all_cons, show rd l i = l[i] from by simp [rd, hlt]]
    cases fits l[i] <;> rfl
theorem fit_ev (l : List Int) (hl : l.length ≤ 1000) : Ev (fun k => PBase.whole_fit.f k l) (l.all fits) :=
  Ev.of (k := l.length + 1) (fun k => PBase.whole_fit.mono l k) (fit_loop l hl l.length 0 _ (by omega) (by omega))

/-! Sums. -/
def addF (a b : Int) : Int × Bool := if -9223372036854775807 ≤ a ∧ -9223372036854775807 ≤ b ∧ -9223372036854775807 ≤ a + b ∧ a + b ≤ 9223372036854775807 then (a + b, true) else (0, false)
theorem wrap_cases {x : Int} (h1 : -18446744073709551616 ≤ x) (h2 : x ≤ 18446744073709551614) :
    (x < -9223372036854775808 ∧ wrap64 x = x + 18446744073709551616) ∨ (9223372036854775807 < x ∧ wrap64 x = x - 18446744073709551616) ∨ (-9223372036854775808 ≤ x ∧ x ≤ 9223372036854775807 ∧ wrap64 x = x) := by
  unfold wrap64; omega
theorem Add_ev (a b : Int) (ha : I64 a) (hb : I64 b) : Ev (fun k => PBase.whole_Add.f k a b) (addF a b) := by
  obtain ⟨a1, a2⟩ := ha
  obtain ⟨b1, b2⟩ := hb
  have hf := fit_ev [a, b, wrap64 (a + b)] (by simp)
  refine Ev.congr (fun k => rfl) (hf.bind (Ev.congr (f := fun _ => some (addF a b)) (fun k => ?_) (Ev.now _)))
  have hw := wrap_cases (x := a + b) (by omega) (by omega)
  show (if ([a, b, wrap64 (a + b)].all fits) = true then _ else _) = _
  have hall : ([a, b, wrap64 (a + b)].all fits = true) ↔ (-9223372036854775807 ≤ a ∧ -9223372036854775807 ≤ b ∧ -9223372036854775807 ≤ wrap64 (a + b)) := by simp [fits]
  clear hf
  generalize wrap64 (a + b) = s at *
  unfold addF
  by_cases h : -9223372036854775807 ≤ a ∧ -9223372036854775807 ≤ b ∧ -9223372036854775807 ≤ s
  · rw [if_pos (hall.2 h)]
    by_cases g : (a < 0 ↔ b < 0)
    · have hg : (decide (a < 0) == decide (b < 0)) = true := by rw [beq_iff_eq, decide_eq_decide]; exact g
      rw [if_pos hg]
      by_cases g2 : (s < 0 ↔ a < 0)
      · have hg2 : (decide (s < 0) != decide (a < 0)) = false := by rw [bne_eq_false_iff_eq, decide_eq_decide]; exact g2
        rw [hg2, if_neg (by decide), if_pos (by omega), show s = a + b from by omega]
      · have hg2 : (decide (s < 0) != decide (a < 0)) = true := by rw [bne_iff_ne, ne_eq, decide_eq_decide]; exact g2
        rw [if_pos hg2, if_neg (by omega)]
    · have hg : (decide (a < 0) == decide (b < 0)) = false := by rw [beq_eq_false_iff_ne, ne_eq, decide_eq_decide]; exact g
      rw [hg, if_neg (by decide), if_pos (by omega), show s = a + b from by omega]
  · rw [if_neg (fun e => h (hall.1 e)), if_neg (by omega)]
theorem refAdd_eq (a b : Int) (ha : I64 a) (hb : I64 b) : PBase.drachmref01_Add.f a b = some (addF a b) := by
  obtain ⟨a1, a2⟩ := ha
  obtain ⟨b1, b2⟩ := hb
  unfold PBase.drachmref01_Add.f addF
  rw [refFits_eq, bs_, refFits_eq, bs_]
  unfold fits
  by_cases f1 : -9223372036854775807 ≤ a
  · by_cases f2 : -9223372036854775807 ≤ b
    · rw [if_pos (decide_eq_true f1), if_pos (decide_eq_true f2)]
      by_cases g1 : b > 0
      · rw [if_pos g1, w64 (x := 9223372036854775807 - b) (by omega) (by omega)]
        by_cases g2 : a > 9223372036854775807 - b
        · rw [if_pos g2, if_neg (by omega)]
        · rw [if_neg g2, if_neg (by omega), if_pos (by omega), w64 (x := a + b) (by omega) (by omega)]
      · rw [if_neg g1]
        by_cases g2 : b < 0
        · rw [if_pos g2, w64 (x := -9223372036854775807 - b) (by omega) (by omega)]
          by_cases g3 : a < -9223372036854775807 - b
          · rw [if_pos g3, if_neg (by omega)]
          · rw [if_neg g3, if_pos (by omega), w64 (x := a + b) (by omega) (by omega)]
        · rw [if_neg g2, if_pos (by omega), w64 (x := a + b) (by omega) (by omega)]
    · rw [if_pos (decide_eq_true f1), if_neg (by rw [decide_eq_false f2]; decide), if_neg (by omega)]
  · rw [if_neg (by rw [decide_eq_false f1]; decide), if_neg (by omega)]
end Go.Proofs.Ytbfajaeghiodnaa
