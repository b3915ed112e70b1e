/- Chapter 7's plain laws: what the printed functions come to. No conditions beyond those that stand in each theorem. -/
import Derived.Test.YtgcaelopcdpkgaaDoorPBasex
import Derived.Test.YtgcaelopcdpkgaaDoorH5
namespace Go.Proofs.YtgcaelopcdpkgaaDoor
open Go.RowKit Go.Proofs.YtgcaelopcdpkgaaDoor.PBase Go.Proofs.YtgcaelopcdpkgaaDoorW.PrintWords Go.Proofs.YtgcaelopcdpkgaaDoorW.PrintLast
theorem bs_ {α β : Type} (a : α) (f : α → Option β) : (some a).bind f = f a := rfl
theorem w64 {x : Int} (h : -9223372036854775808 ≤ x) (h2 : x ≤ 9223372036854775807) : wrap64 x = x := by unfold wrap64; omega
theorem mol : style_Raise.f 4 (⟨#[109, 111, 108]⟩ : ByteArray) = some ⟨#[77, 79, 76]⟩ := by
  unfold style_Raise.f
  rw [if_pos (by decide)]
  simp only [style_Of.f]
  rfl
theorem star3 (k : Nat) : style_Kind.f (k + 10) 3 42 = some 4 := by
  simp [style_Kind.f, style_Of.f, style_Kind.j0, style_Kind.j1, style_Kind.j2, style_Kind.j3, style_Kind.j4, style_Kind.j5, strings_IndexByte.f]
  decide
theorem star1 (k : Nat) : style_Kind.f (k + 10) 1 42 = some 0 := by
  simp [style_Kind.f, style_Of.f, style_Kind.j0, style_Kind.j1, style_Kind.j2, style_Kind.j3, style_Kind.j4, style_Kind.j5, strings_IndexByte.f]
  decide
theorem awake_true (k : Nat) : drachmlaw07_awake.f (k + 10) = some true := by
  unfold drachmlaw07_awake.f
  rw [star3, bs_, if_pos rfl, star1, bs_, if_pos rfl, mol, bs_, Go.ByteArray.toList_eq]
  rfl
theorem rest_eq (n : Int) (m : Int) (h : 0 < m) (h2 : m ≤ 1000) : ∃ r, drachmlaw07_rest.f n m = some r ∧ 0 ≤ r ∧ r < m := by
  unfold drachmlaw07_rest.f
  rw [if_neg (by omega)]
  have a := Int.tmod_lt_of_pos n h
  have b := Int.lt_tmod_of_pos n h
  generalize Int.tmod n m = q at a b
  rw [w64 (x := q + m) (by omega) (by omega)]
  exact ⟨_, rfl, Int.tmod_nonneg _ (by omega), Int.tmod_lt_of_pos _ h⟩
theorem short_eq (s : ByteArray) : ∃ t, drachmlaw07_short.f s = some t ∧ t.size ≤ 60 := by
  unfold drachmlaw07_short.f
  by_cases h : (s.size : Int) > 60
  · rw [if_pos h, if_pos (by omega), if_pos (by omega)]
    exact ⟨_, rfl, by rw [ByteArray.size_extract]; omega⟩
  · rw [if_neg h]
    exact ⟨_, rfl, by omega⟩
theorem app (a b : ByteArray) : bytesOf (a ++ b) = bytesOf a ++ bytesOf b := by unfold bytesOf; simp
theorem of_some (n : Int) : ∃ x, style_Of.f n = some x := by
  unfold style_Of.f
  repeat' split
  all_goals exact ⟨_, rfl⟩
theorem plain_f (n : Int) (s : ByteArray) (h : s.size ≤ 1000) {x} (hx : style_Of.f n = some x) : style_Plain.f n s = some ((bytesOf s).all (okb x.2.2.2.2.1 x.2.2.2.2.2.1) && x.2.2.2.2.1 != 0) := by
  unfold style_Plain.f
  rw [if_pos (by omega), hx]
  rfl
end Go.Proofs.YtgcaelopcdpkgaaDoor
