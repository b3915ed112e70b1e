/- EditLeast's plain law: for any two texts the law's function answers true. Its conditions: none beyond the sizes that every row has. -/
import Derived.Test.YtkogfbgeepgjgaaPEditLeastx1
import Derived.Test.YtkogfbgeepgjgaaV5
namespace Go.Proofs.Ytkogfbgeepgjgaa.Pure
open Go.RowKit Go.Proofs.Ytkogfbgeepgjgaa.PEditLeast Go.Proofs.YtkogfbgeepgjgaaW.PrintWords Go.Proofs.YtkogfbgeepgjgaaW.PrintLast

theorem awakeLeast : drachmlaw16_awake.f = some true := awake_true
/-- The bytes that have come, the last one first. -/
def cameL (s : ByteArray) (i : Nat) : List Int := ((bytesOf s).take i).reverse
theorem cameL_succ (s : ByteArray) (i : Nat) (h : i < s.size) : cameL s (i + 1) = bt s i :: cameL s i := by
  have := bytesOf_length s
  unfold cameL
  rw [take_rev _ _ (by omega), rd_bytesOf]
theorem cameL_length (s : ByteArray) (i : Nat) (h : i ≤ s.size) : (cameL s i).length = i := by
  have := bytesOf_length s
  unfold cameL; simp; omega
theorem loopLeast (w s : ByteArray) (hw : w.size ≤ 24) (hs : s.size ≤ 24) : ∀ (d i : Nat) (last : Int), i + d = s.size → last ≤ minL (rowL (bytesOf w) (cameL s i)) →
    Ev (fun k => drachmlaw16_EditLeast.l0 k w s true (rowL (bytesOf w) (cameL s i)) last i) true := by
  have hlen := bytesOf_length w
  have hle : ∀ i, Ev (fun k => PBase.edit_Least.f k (rowL (bytesOf w) (cameL s i))) (minL (rowL (bytesOf w) (cameL s i))) := fun i => least_ev _ (by rw [rowL_length]; omega) (by rw [rowL_length]; omega)
  intro d
  induction d with
  | zero =>
    intro i last hi hlast
    obtain rfl : i = s.size := by omega
    have hd : last ≤ (dL w s : Int) := by
      have h2 := minL_le (rowL (bytesOf w) (cameL s s.size)) w.size (by rw [rowL_length]; omega)
      have hls := bytesOf_length s
      rw [rd_rowL _ _ _ (by omega), List.take_of_length_le (by omega)] at h2
      unfold cameL at h2 hlast
      rw [List.take_of_length_le (by omega)] at h2 hlast
      rw [V.L_rev] at h2
      exact Int.le_trans hlast h2
    refine Ev.step (f := fun k => (PBase.edit_Least.f k (rowL (bytesOf w) (cameL s s.size))).bind fun t108 => if t108 ≥ last then ((edit_Distance.f w s).bind fun t109 => (some (decide (t109 ≥ last)))) else (some false)) (fun k => ?_) ((hle s.size).bind ?_)
    · simp only [drachmlaw16_EditLeast.l0]
      rw [if_neg (by omega), if_pos trivial]
    · refine Ev.congr (f := fun _ => some true) (fun k => ?_) (Ev.now _)
      rw [if_pos hlast, edit_Distance_f w s (by omega) (by omega), Option.bind_some, decide_eq_true hd]
  | succ d ih =>
    intro i last hi hlast
    have hrow := minL_le (rowL (bytesOf w) (cameL s i)) w.size (by rw [rowL_length]; omega)
    have hgo := minL_rowL (bytesOf w) (cameL s i) (bt s i)
    have hq := cameL_length s i (by omega)
    have hnext := edit_Next_rowL w (cameL s i) (bt s i) (by omega) (by omega)
    rw [← cameL_succ s i (by omega)] at hnext hgo
    refine Ev.step (f := fun k => (PBase.edit_Least.f k (rowL (bytesOf w) (cameL s i))).bind fun t110 => if t110 < last then some false else if rd (rowL (bytesOf w) (cameL s i)) w.size < t110 then some false else drachmlaw16_EditLeast.l0 k w s true (rowL (bytesOf w) (cameL s (i + 1))) t110 ((i + 1 : Nat) : Int)) (fun k => ?_) ((hle i).bind ?_)
    · simp only [drachmlaw16_EditLeast.l0]
      rw [if_pos (by omega), rowL_length, hlen, w64 (by omega) (by omega), if_pos (by omega)]
      congr 1
      funext t
      by_cases h : t < last
      · rw [if_pos h, if_pos h]
      · rw [if_neg h, if_neg h, if_pos (by omega), if_pos (by omega)]
        by_cases h2 : rd (rowL (bytesOf w) (cameL s i)) w.size < t
        · rw [if_pos h2, if_pos h2]
        · rw [if_neg h2, if_neg h2, if_pos (by omega), hnext, Option.bind_some, wsucc (by omega)]
    · refine Ev.congr (fun k => ?_) (ih (i + 1) (minL (rowL (bytesOf w) (cameL s i))) (by omega) hgo)
      rw [if_neg (by omega), if_neg (by omega)]
theorem EditLeast : drachmlaw16_EditLeast.Pure := by
  intro a0 a1 _ _
  obtain ⟨a, ea, ha⟩ := short_eq a0
  obtain ⟨b, eb, hb⟩ := short_eq a1
  have hs := start_ev a (by omega)
  have hlen := bytesOf_length a
  refine Ev.rounds (r := true) (g := fun k => drachmlaw16_EditLeast.f k a0 a1) ?_
  refine Ev.congr (f := fun k => (PBase.edit_Start.f k a).bind fun t105 => drachmlaw16_EditLeast.l0 k a b true t105 0 0) (fun k => ?_) (hs.bind ?_)
  · unfold drachmlaw16_EditLeast.f
    rw [awakeLeast, Option.bind_some, ea, Option.bind_some, eb, Option.bind_some]
  · rw [← hlen, iota_rowL]
    refine loopLeast a b ha hb b.size 0 0 (by omega) ?_
    refine minL_ge _ _ (by rw [rowL_length]; omega) (fun i hi => ?_)
    rw [rowL_length] at hi
    rw [rd_rowL _ _ _ (by omega)]
    omega
end Go.Proofs.Ytkogfbgeepgjgaa.Pure
