/- What a trie's map of children reads as. No conditions beyond those in each theorem. -/
import Derived.WalkKit
import Derived.Maps.OwnSet
import Derived.Maps.Views
namespace Go.Proofs.Ytgdipibmaaehcaa.Tr
open Go Go.RowKit
set_option linter.unusedVariables false
/-- A map from bytes to numbers, by its datum. -/
structure Reads (D : DataW Unit) (f : Int → Option Nat) : Prop where
  im : Maps.IsMap D
  hs : ∀ c : Int, 0 ≤ c → c ≤ 255 → Maps.has D (.int .u8 c) = (f c).isSome
  at_ : ∀ c : Int, 0 ≤ c → c ≤ 255 → D.atKey (.int .u8 c) (.lit (.int .i64 0)) = .lit (.int .i64 (((f c).getD 0 : Nat) : Int))
theorem Reads.empty : Reads (.map []) (fun _ => none) := ⟨⟨[], rfl⟩, fun c _ _ => rfl, fun c _ _ => rfl⟩
theorem Reads.put {D : DataW Unit} {f : Int → Option Nat} (h : Reads D f) (c : Int) (h0 : 0 ≤ c) (h1 : c ≤ 255) (v : Nat) : Reads (D.put (.int .u8 c) (.lit (.int .i64 (v : Int)))) (fun x => if x = c then some v else f x) := by
  have hk : WideAt.IsKeyLit (.int .u8 c) := by simp [WideAt.IsKeyLit]
  refine ⟨h.im.put _ _, fun x x0 x1 => ?_, fun x x0 x1 => ?_⟩
  · by_cases e : x = c
    · subst e; rw [Maps.has_put_same h.im hk, if_pos rfl]; rfl
    · rw [Maps.has_put_other (by simpa using e), if_neg e]; exact h.hs x x0 x1
  · by_cases e : x = c
    · subst e; rw [Maps.atKey_put_same h.im hk, if_pos rfl]; rfl
    · rw [Maps.atKey_put_other (by simpa using e), if_neg e]; exact h.at_ x x0 x1
theorem Reads.congr {D : DataW Unit} {f g : Int → Option Nat} (h : Reads D f) (e : ∀ c, 0 ≤ c → c ≤ 255 → f c = g c) : Reads D g :=
  ⟨h.im, fun c a b => by rw [← e c a b]; exact h.hs c a b, fun c a b => by rw [← e c a b]; exact h.at_ c a b⟩
end Go.Proofs.Ytgdipibmaaehcaa.Tr
