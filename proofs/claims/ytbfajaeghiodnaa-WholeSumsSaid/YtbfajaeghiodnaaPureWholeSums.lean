/- WholeSums' plain law: for any two numbers the law's function answers true. Its conditions: none. -/
import Derived.Test.YtbfajaeghiodnaaPWholeSumsx1
import Derived.Test.YtbfajaeghiodnaaV4
namespace Go.Proofs.Ytbfajaeghiodnaa.Pure
open Go.RowKit Go.Proofs.Ytbfajaeghiodnaa.PWholeSums Go.Proofs.YtbfajaeghiodnaaW.PrintWords Go.Proofs.YtbfajaeghiodnaaW.PrintLast Go.Proofs.YtbfajaeghiodnaaW.PrintMore

theorem add_comm' (a b : Int) : addF b a = addF a b := by unfold addF; rw [Int.add_comm b a]; split <;> split <;> first | rfl | omega
theorem mul_comm' (a b : Int) : mulF b a = mulF a b := by unfold mulF; rw [Int.mul_comm b a]; split <;> split <;> first | rfl | omega
theorem WholeSums : drachmlaw01_WholeSums.Pure := by
  intro a b ha hb
  have ha := i64_of ha
  have hb := i64_of hb
  refine Ev.rounds (r := true) (g := fun k => drachmlaw01_WholeSums.f k a b) ?_
  have t1 := Add_ev 9223372036854775807 1 (by unfold I64; omega) (by unfold I64; omega)
  have t2 := Add_ev (-9223372036854775807) (-1) (by unfold I64; omega) (by unfold I64; omega)
  rw [show addF 9223372036854775807 1 = (0, false) by decide] at t1
  rw [show addF (-9223372036854775807) (-1) = (0, false) by decide] at t2
  have e1 := Add_ev a b ha hb
  have e2 := Add_ev b a hb ha
  have e3 := Mul_ev a b ha hb
  have e4 := Mul_ev b a hb ha
  rw [add_comm'] at e2
  rw [mul_comm'] at e4
  have last : Ev (fun k => drachmlaw01_WholeSums.j0 k a b true (addF a b).1 (addF a b).2 false) true := by
    by_cases h : -9223372036854775807 ≤ a ∧ -9223372036854775807 ≤ b ∧ -9223372036854775807 ≤ a + b ∧ a + b ≤ 9223372036854775807
    · have e : addF a b = (a + b, true) := if_pos h
      obtain ⟨a1, a2⟩ := ha
      obtain ⟨b1, b2⟩ := hb
      have e5 := Add_ev (a + b) (-b) (by unfold I64; omega) (by unfold I64; omega)
      have e6 : addF (a + b) (-b) = (a, true) := by
        unfold addF
        rw [if_pos (by omega), show a + b + -b = a by omega]
      rw [e6] at e5
      refine Ev.step (f := fun k => (PBase.whole_Add.f k (a + b) (-b)).bind fun bt => if bt.2 = true then some (bt.1 == a) else some false) (fun k => ?_) (e5.bind (Ev.congr (f := fun _ => some true) (fun k => ?_) (Ev.now _)))
      · simp only [drachmlaw01_WholeSums.j0]
        rw [if_neg (by decide), e, if_pos rfl, w64 (x := -b) (by omega) (by omega)]
        simp only [if_true]
      · rw [if_pos rfl, beq_self_eq_true]
    · have e : addF a b = (0, false) := if_neg h
      refine Ev.step (f := fun _ => some true) (fun k => ?_) (Ev.now _)
      simp only [drachmlaw01_WholeSums.j0]
      rw [if_neg (by decide), e, if_neg (by decide), if_pos trivial]
      rfl
  refine Ev.congr (fun k => rfl) (awake_ev.bind (e1.bind (e2.bind (e3.bind (e4.bind (t1.bind (t2.bind (Ev.congr (fun k => ?_) last))))))))
  rw [if_pos rfl, bne_self_eq_false, if_neg (by decide), if_pos rfl, bne_self_eq_false, if_neg (by decide), if_neg (by decide)]
end Go.Proofs.Ytbfajaeghiodnaa.Pure
