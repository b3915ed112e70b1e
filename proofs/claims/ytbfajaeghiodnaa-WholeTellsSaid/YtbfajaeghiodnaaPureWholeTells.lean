/- WholeTells' plain law: for any two numbers, and any count, the law's function answers true. Its conditions: none. -/
import Derived.Test.YtbfajaeghiodnaaPWholeTellsx1
import Derived.Test.YtbfajaeghiodnaaV4
namespace Go.Proofs.Ytbfajaeghiodnaa.Pure
open Go.RowKit Go.Proofs.Ytbfajaeghiodnaa.PWholeTells Go.Proofs.YtbfajaeghiodnaaW.PrintWords Go.Proofs.YtbfajaeghiodnaaW.PrintLast Go.Proofs.YtbfajaeghiodnaaW.PrintMore

theorem ediv_in {a p : Int} (ha : I64 a) (hp : 1 ≤ p) : I64 (a / p) := by
  obtain ⟨a1, a2⟩ := ha
  by_cases h : 0 ≤ a
  · have h1 := Int.ediv_nonneg h (show 0 ≤ p by omega)
    have h2 := Int.ediv_le_self p h
    unfold I64
    omega
  · have h1 : a ≤ a / p := by
      rw [Int.le_ediv_iff_mul_le (by omega)]
      have : a * p ≤ a * 1 := Int.mul_le_mul_of_nonpos_left (by omega) hp
      omega
    have h2 : a / p < 0 := Int.ediv_neg_of_neg_of_pos (by omega) (by omega)
    unfold I64
    omega
theorem shr_in (a n : Int) (ha : I64 a) : I64 (shr .i64 a n) := by
  unfold shr
  refine ediv_in ha ?_
  have h : (0 : Int) < 2 ^ min n.toNat IntKind.i64.bits := Int.pow_pos (by decide)
  omega
theorem WholeTells : drachmlaw01_WholeTells.Pure := by
  intro a b n ha hb _
  have ha := i64_of ha
  have hb := i64_of hb
  have hw : (0 : Int) ≤ IntKind.u64.wrap (Go.bits .and .i64 n 63) := by rw [u64w]; omega
  refine Ev.rounds (r := true) (g := fun k => drachmlaw01_WholeTells.f k a b n) ?_
  generalize hj : IntKind.u64.wrap (Go.bits .and .i64 n 63) = j at *
  have h1 := tells_ev a b ha hb
  have h2 := tells_ev (shr .i64 a j) b (shr_in a j ha) hb
  have h3 := tells_ev (shr .i64 a j) (shr .i64 b j) (shr_in a j ha) (shr_in b j hb)
  have h4 := tells_ev a (wrap64 (1 - (b / 9223372036854775808))) ha (by
    have := ediv_in hb (show 1 ≤ (9223372036854775808 : Int) by omega)
    obtain ⟨b1, b2⟩ := hb
    rw [w64 (by omega) (by omega)]
    unfold I64
    omega)
  refine Ev.congr (f := fun k => (PBase.drachmlaw01_awake.f k).bind fun t101 => (if t101 = true then ((PBase.drachmlaw01_tells.f k a b).bind fun t102 => (if t102 = true then ((PBase.drachmlaw01_tells.f k (shr .i64 a j) b).bind fun t103 => (if t103 = true then ((PBase.drachmlaw01_tells.f k (shr .i64 a j) (shr .i64 b j)).bind fun t104 => (if t104 = true then ((PBase.drachmlaw01_tells.f k a (wrap64 (1 - (b / 9223372036854775808)))).bind fun t105 => (some t105)) else (some false))) else (some false))) else (some false))) else (some false))) (fun k => ?_) ?_
  · unfold drachmlaw01_WholeTells.f
    rw [hj]
    simp only [hw, if_true]
  · refine awake_ev.bind (Ev.congr (fun k => if_pos rfl) (h1.bind (Ev.congr (fun k => if_pos rfl) (h2.bind (Ev.congr (fun k => if_pos rfl) (h3.bind (Ev.congr (fun k => if_pos rfl) (h4.bind (Ev.now _)))))))))
end Go.Proofs.Ytbfajaeghiodnaa.Pure
