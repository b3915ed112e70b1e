/- EditAny's plain law: for any text, any numbers and any byte the law's function answers true. Its conditions: none beyond the sizes that every row has. -/
import Derived.Test.YtkogfbgeepgjgaaPEditAnyx2
import Derived.Test.YtkogfbgeepgjgaaV5
namespace Go.Proofs.Ytkogfbgeepgjgaa.Pure
open Go.RowKit Go.Proofs.Ytkogfbgeepgjgaa.PEditAny Go.Proofs.YtkogfbgeepgjgaaW.PrintWords Go.Proofs.YtkogfbgeepgjgaaW.PrintLast

theorem awakeAny : drachmlaw16_awake.f = some true := awake_true
theorem refNext_any (s : ByteArray) (l : List Int) (c : Int) (hs : s.size ≤ 1000) : ∃ r, edit_Next.f s l c = some r ∧ r.length ≤ 1001 ∧ Ev (fun k => PBase.drachmref16_Next.f k s l c) r := by
  by_cases hl : l.length = s.size + 1
  · exact ⟨_, edit_Next_f s l c hl hs, by rw [eRow_length]; omega, refNext_ev s l c hl (by omega)⟩
  · refine ⟨[], ?_, by simp, ?_⟩
    · unfold edit_Next.f
      rw [w64 (by omega) (by omega), if_neg (by omega)]
    · refine Ev.congr (f := fun _ => some []) (fun k => ?_) (Ev.now _)
      unfold PBase.drachmref16_Next.f
      rw [w64 (by omega) (by omega), if_neg (by omega)]
theorem anyEnd (s : ByteArray) (hs : s.size ≤ 24) (c : Int) (row full : List Int) (hf : full.length ≤ 1000) : Ev (fun k => drachmlaw16_EditAny.j3 k s c true row full full) true := by
  obtain ⟨r1, e1, h1, v1⟩ := refNext_any s row c (by omega)
  obtain ⟨r2, e2, h2, v2⟩ := refNext_any s full c (by omega)
  have s1 := same_ev r1 (by omega)
  have s2 := same_ev r2 (by omega)
  have s3 := same_ev full (by omega)
  refine Ev.step (f := fun k => (PBase.drachmref16_Next.f k s row c).bind fun t121 => ((PBase.drachmref16_Same.f k r1 t121).bind fun t124 => ((PBase.drachmref16_Next.f k s full c).bind fun t128 => ((PBase.drachmref16_Same.f k r2 t128).bind fun t131 => ((PBase.drachmref16_Same.f k full full).bind fun t132 => (if t124 = true then (if t131 = true then (some t132) else (some false)) else (some false))))))) (fun k => ?_) (v1.bind (s1.bind (v2.bind (s2.bind (s3.bind ?_)))))
  · simp only [drachmlaw16_EditAny.j3]
    rw [e1, bs_]
    simp only [e2, bs_, if_true]
  · exact Ev.congr (f := fun _ => some true) (fun k => rfl) (Ev.now _)
theorem anyFill (s : ByteArray) (hs : s.size ≤ 24) (c : Int) (row : List Int) : ∀ (d j : Nat) (full : List Int), full.length = s.size + 1 → j + d = s.size + 1 → Ev (fun k => drachmlaw16_EditAny.l1 k s c true row full full j) true := by
  intro d
  induction d with
  | zero =>
    intro j full hf hj
    refine Ev.step (fun k => ?_) (anyEnd s hs c row full (by omega))
    simp only [drachmlaw16_EditAny.l1]
    rw [if_neg (by omega)]
  | succ d ih =>
    intro j full hf hj
    by_cases hr : (j : Int) < (row.length : Int)
    · refine Ev.step (fun k => ?_) (ih (j + 1) (full.set j (rd row j)) (by rw [List.length_set]; exact hf) (by omega))
      simp only [drachmlaw16_EditAny.l1]
      rw [if_pos (by omega), if_pos hr, if_pos (by omega), if_pos (by omega), Int.toNat_natCast, wsucc (by omega)]
    · refine Ev.step (fun k => ?_) (anyEnd s hs c row full (by omega))
      simp only [drachmlaw16_EditAny.l1]
      rw [if_pos (by omega), if_neg hr]
theorem anyMid (s : ByteArray) (hs : s.size ≤ 24) (c : Int) (row : List Int) : Ev (fun k => drachmlaw16_EditAny.j1 k s c true row) true := by
  refine Ev.step (fun k => ?_) (anyFill s hs c row (s.size + 1) 0 (List.replicate (s.size + 1) 0) (by simp) (by omega))
  simp only [drachmlaw16_EditAny.j1]
  rw [w64 (by omega) (by omega), if_pos (by omega), if_pos (by omega), show ((s.size : Int) + 1).toNat = s.size + 1 from by omega]
  rfl
theorem anyTake (s : ByteArray) (hs : s.size ≤ 24) (l : List Int) (c : Int) : ∀ (d j : Nat) (row : List Int), j + d = 31 → row.length = j → Ev (fun k => drachmlaw16_EditAny.l0 k s l c true row j) true := by
  intro d
  induction d with
  | zero =>
    intro j row hj hr
    refine Ev.step (fun k => ?_) (anyMid s hs c row)
    simp only [drachmlaw16_EditAny.l0]
    by_cases h : (j : Int) < (l.length : Int)
    · rw [if_pos h, if_neg (by omega)]
    · rw [if_neg h]
  | succ d ih =>
    intro j row hj hr
    by_cases h : (j : Int) < (l.length : Int)
    · by_cases h2 : (j : Int) < 30
      · refine Ev.step (fun k => ?_) (ih (j + 1) (row ++ [Go.bits .and .i64 (rd l j) 1048575]) (by omega) (by simp [hr]))
        simp only [drachmlaw16_EditAny.l0]
        rw [if_pos h, if_pos h2, if_pos (by omega), if_pos (by omega), wsucc (by omega)]
      · refine Ev.step (fun k => ?_) (anyMid s hs c row)
        simp only [drachmlaw16_EditAny.l0]
        rw [if_pos h, if_neg h2]
    · refine Ev.step (fun k => ?_) (anyMid s hs c row)
      simp only [drachmlaw16_EditAny.l0]
      rw [if_neg h]
theorem EditAny : drachmlaw16_EditAny.Pure := by
  intro a0 l c _ _ _ _ _
  obtain ⟨a, ea, ha⟩ := short_eq a0
  refine Ev.rounds (r := true) (g := fun k => drachmlaw16_EditAny.f k a0 l c) ?_
  refine Ev.congr (f := fun k => drachmlaw16_EditAny.l0 k a l c true [] 0) (fun k => ?_) (anyTake a ha l c 31 0 [] (by omega) rfl)
  unfold drachmlaw16_EditAny.f
  rw [awakeAny, Option.bind_some, ea, Option.bind_some]
end Go.Proofs.Ytkogfbgeepgjgaa.Pure
