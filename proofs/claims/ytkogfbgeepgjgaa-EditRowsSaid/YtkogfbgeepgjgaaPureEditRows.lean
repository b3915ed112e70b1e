/- EditRows' plain law: for any two texts the law's function answers true. Its conditions: none beyond the sizes that every row has. -/
import Derived.Test.YtkogfbgeepgjgaaPEditRowsx2
import Derived.Test.YtkogfbgeepgjgaaV5
namespace Go.Proofs.Ytkogfbgeepgjgaa.Pure
open Go.RowKit Go.Proofs.Ytkogfbgeepgjgaa.PEditRows Go.Proofs.YtkogfbgeepgjgaaW.PrintWords Go.Proofs.YtkogfbgeepgjgaaW.PrintLast

theorem awakeRows : drachmlaw16_awake.f = some true := awake_true
def cameR (s : ByteArray) (i : Nat) : List Int := ((bytesOf s).take i).reverse
theorem cameR_succ (s : ByteArray) (i : Nat) (h : i < s.size) : cameR s (i + 1) = bt s i :: cameR s i := by
  have := bytesOf_length s
  unfold cameR
  rw [take_rev _ _ (by omega), rd_bytesOf]
theorem cameR_length (s : ByteArray) (i : Nat) (h : i ≤ s.size) : (cameR s i).length = i := by
  have := bytesOf_length s
  unfold cameR; simp; omega
theorem least_nil : ∀ k, PBase.edit_Least.f k [] = some 0 := fun k => by unfold PBase.edit_Least.f; rw [if_pos (by simp)]
theorem mn_self (x : Int) : mn x x = x := by unfold mn; split <;> rfl
theorem foldl_mn_take (l : List Int) (h0 : 0 < l.length) (j : Nat) (hj : 1 ≤ j) (hl : j ≤ l.length) : (l.take j).foldl mn (rd l 0) = ((l.take j).drop 1).foldl mn (rd l 0) := by
  cases l with
  | nil => simp at h0
  | cons x l =>
    obtain ⟨j, rfl⟩ : ∃ m, j = m + 1 := ⟨j - 1, by omega⟩
    rw [List.take_succ_cons, List.foldl_cons, show rd (x :: l) 0 = x from rfl, mn_self]
    rfl
theorem minL_fold (l : List Int) (h0 : 0 < l.length) : l.foldl mn (rd l 0) = minL l := by
  have := foldl_mn_take l h0 l.length h0 (Nat.le_refl _)
  rw [List.take_length] at this
  exact this
theorem rowsInner (w s : ByteArray) (xs want : List Int) (i : Nat) (r : Bool) (h0 : 0 < want.length) (hw : want.length ≤ 1000)
    (hnext : Ev (fun k => (PBase.edit_Least.f k xs).bind fun t115 => if t115 = minL want then (if (i : Int) < (s.size : Int) then (if 0 ≤ (i : Int) then ((edit_Next.f w xs (bt s i)).bind fun t116 => (drachmlaw16_EditRows.l0 k w s true t116 (wrap64 (i + 1)))) else (none)) else (drachmlaw16_EditRows.l0 k w s true xs (wrap64 (i + 1)))) else (some false)) r) :
    ∀ (d j : Nat), j + d = want.length → Ev (fun k => drachmlaw16_EditRows.l1 k w s true xs i want ((want.take j).foldl mn (rd want 0)) j) r := by
  intro d
  induction d with
  | zero =>
    intro j hj
    refine Ev.step (fun k => ?_) hnext
    simp only [drachmlaw16_EditRows.l1]
    rw [if_neg (by omega), List.take_of_length_le (by omega), minL_fold want h0]
  | succ d ih =>
    intro j hj
    refine Ev.step (fun k => ?_) (ih (j + 1) (by omega))
    simp only [drachmlaw16_EditRows.l1]
    rw [if_pos (by omega), if_pos (by omega), wsucc (by omega), List.take_succ_eq_append_getElem (by omega), List.foldl_append, rd_nat _ _ (by omega)]
    rfl
theorem rowsLoop (w s : ByteArray) (hw : w.size ≤ 24) (hs : s.size ≤ 24) : ∀ (d i : Nat), i + d = s.size → Ev (fun k => drachmlaw16_EditRows.l0 k w s true (rowL (bytesOf w) (cameR s i)) i) true := by
  have hlen := bytesOf_length w
  have hle : ∀ i, Ev (fun k => PBase.edit_Least.f k (rowL (bytesOf w) (cameR s i))) (minL (rowL (bytesOf w) (cameR s i))) := fun i => least_ev _ (by rw [rowL_length]; omega) (by rw [rowL_length]; omega)
  have one : ∀ (i : Nat) (r : Bool), i ≤ s.size → Ev (fun k => (PBase.edit_Least.f k (rowL (bytesOf w) (cameR s i))).bind fun t115 => if t115 = minL (rowL (bytesOf w) (cameR s i)) then (if (i : Int) < (s.size : Int) then (if 0 ≤ (i : Int) then ((edit_Next.f w (rowL (bytesOf w) (cameR s i)) (bt s i)).bind fun t116 => (drachmlaw16_EditRows.l0 k w s true t116 (wrap64 (i + 1)))) else (none)) else (drachmlaw16_EditRows.l0 k w s true (rowL (bytesOf w) (cameR s i)) (wrap64 (i + 1)))) else (some false)) r →
      Ev (fun k => drachmlaw16_EditRows.l0 k w s true (rowL (bytesOf w) (cameR s i)) i) r := by
    intro i r hi h
    have hrow := row_ev w (s.extract 0 i) (by omega) (by rw [ByteArray.size_extract]; omega)
    rw [bytesOf_extract s i hi] at hrow
    change Ev _ (rowL (bytesOf w) (cameR s i)) at hrow
    have hsame := same_ev (rowL (bytesOf w) (cameR s i)) (by rw [rowL_length]; omega)
    refine Ev.step (f := fun k => (PBase.drachmref16_Row.f k w (s.extract 0 i)).bind fun t109 => ((PBase.drachmref16_Same.f k (rowL (bytesOf w) (cameR s i)) t109).bind fun t112 => (if t112 = true then (if 0 < (t109.length : Int) then (drachmlaw16_EditRows.l1 k w s true (rowL (bytesOf w) (cameR s i)) i t109 (rd t109 0) 0) else (none)) else (some false)))) (fun k => ?_) (hrow.bind (hsame.bind ?_))
    · simp only [drachmlaw16_EditRows.l0]
      rw [if_pos (by omega), if_pos (by omega), Int.toNat_natCast]
    · refine Ev.congr (fun k => ?_) (rowsInner w s _ (rowL (bytesOf w) (cameR s i)) i r (by rw [rowL_length]; omega) (by rw [rowL_length]; omega) h (rowL (bytesOf w) (cameR s i)).length 0 (by omega))
      rw [if_pos rfl, if_pos (by rw [rowL_length]; omega)]
      rfl
  intro d
  induction d with
  | zero =>
    intro i hi
    obtain rfl : i = s.size := by omega
    refine one s.size true (Nat.le_refl _) ((hle s.size).bind ?_)
    refine Ev.congr (f := fun k => drachmlaw16_EditRows.l0 k w s true (rowL (bytesOf w) (cameR s s.size)) ((s.size + 1 : Nat) : Int)) (fun k => ?_) ?_
    · rw [if_pos rfl, if_neg (by omega), wsucc (by omega)]
    · refine Ev.step (f := fun _ => some true) (fun k => ?_) (Ev.now _)
      simp only [drachmlaw16_EditRows.l0]
      rw [if_neg (by omega), if_pos trivial, least_nil]
      rfl
  | succ d ih =>
    intro i hi
    have hq := cameR_length s i (by omega)
    have hnext := edit_Next_rowL w (cameR s i) (bt s i) (by omega) (by omega)
    rw [← cameR_succ s i (by omega)] at hnext
    refine one i true (by omega) ((hle i).bind ?_)
    refine Ev.congr (fun k => ?_) (ih (i + 1) (by omega))
    rw [if_pos rfl, if_pos (by omega), if_pos (by omega), hnext, Option.bind_some, wsucc (by omega)]
theorem EditRows : drachmlaw16_EditRows.Pure := by
  intro a0 a1 _ _
  obtain ⟨a, ea, ha⟩ := short_eq a0
  obtain ⟨b, eb, hb⟩ := short_eq a1
  have hs := start_ev a (by omega)
  have hlen := bytesOf_length a
  refine Ev.rounds (r := true) (g := fun k => drachmlaw16_EditRows.f k a0 a1) ?_
  refine Ev.congr (f := fun k => (PBase.edit_Start.f k a).bind fun t105 => drachmlaw16_EditRows.l0 k a b true t105 0) (fun k => ?_) (hs.bind ?_)
  · unfold drachmlaw16_EditRows.f
    rw [awakeRows, Option.bind_some, ea, Option.bind_some, eb, Option.bind_some]
  · rw [← hlen, iota_rowL]
    exact rowsLoop a b ha hb b.size 0 (by omega)
end Go.Proofs.Ytkogfbgeepgjgaa.Pure
