/- Chapter 7's plain laws: what the printed functions come to. No conditions beyond those that stand in each theorem. -/
import Derived.Test.YtimkhjbnkcgekaaDoorPBx
import Derived.Test.YtimkhjbnkcgekaaDoorH5
namespace Go.Proofs.YtimkhjbnkcgekaaDoor
open Go.RowKit Go.Proofs.YtimkhjbnkcgekaaDoor.PB Go.Proofs.YtimkhjbnkcgekaaDoorW.PrintWords Go.Proofs.YtimkhjbnkcgekaaDoorW.PrintLast
theorem bs_ {α β : Type} (a : α) (f : α → Option β) : (some a).bind f = f a := rfl
theorem w64 {x : Int} (h : -9223372036854775808 ≤ x) (h2 : x ≤ 9223372036854775807) : wrap64 x = x := by unfold wrap64; omega
theorem app (a b : ByteArray) : bytesOf (a ++ b) = bytesOf a ++ bytesOf b := by unfold bytesOf; simp
theorem of_some (n : Int) : ∃ x, style_Of.f n = some x := by
  unfold style_Of.f
  repeat' split
  all_goals exact ⟨_, rfl⟩
theorem plain_f (n : Int) (s : ByteArray) (h : s.size ≤ 1000) {x} (hx : style_Of.f n = some x) : style_Plain.f n s = some ((bytesOf s).all (okb x.2.2.2.2.1 x.2.2.2.2.2.1) && x.2.2.2.2.1 != 0) := by
  unfold style_Plain.f
  rw [if_pos (by omega), hx]
  rfl
end Go.Proofs.YtimkhjbnkcgekaaDoor
