/- strconv.FormatInt at base 10, strconv.Itoa: the shelf's contracts in the print's form. Their conditions: the listed variables as they were laid. -/
import Derived.Test.YthfibffgmoblaaaDoorShelf
import Derived.Test.YthfibffgmoblaaaDoorGlob
import Derived.Test.YthfibffgmoblaaaDoorWw
import Derived.Lib.AppendIntMem
import Derived.Lib.AtoiErrMem
namespace Go.Proofs.YthfibffgmoblaaaDoor
open Go Go.RowKit Flat Go.Proofs.YthfibffgmoblaaaDoorW.PrintWords
set_option linter.unusedVariables false
theorem tab10 {w : World} {l : List Nat} (hG : Glob l w) (hs : l.contains 2 = true) : Lib.TabIs Tryd.prog w "internal/strconv.uint64pow10" .u64 Lib.pow10Tab := by
  obtain ⟨t, h⟩ := hG.v2 hs
  unfold Lib.TabIs World.var?
  rw [show Tryd.prog.globalNamed "internal/strconv.uint64pow10" = some 2 from by kernel_rfl, Option.bind_some, h]
  exact congrArg some (by kernel_rfl)
def strconv_FormatInt.f (a0 a1 : Int) : Option ByteArray := if a1 = 10 ∧ -9223372036854775808 ≤ a0 ∧ a0 ≤ 9223372036854775807 then some ⟨(Lib.itoa a0).toArray⟩ else none
theorem strconv_FormatInt.calls (a0 a1 : Int) (r : ByteArray) (w : World) (hG : Glob [2] w) (h : strconv_FormatInt.f a0 a1 = some r) :
    Calls Tryd.prog 52 #[.int .i64 a0, .int .i64 a1] w fun e w' => e = .returned (.string r) ∧ Below w.heap.size w w' := by
  unfold strconv_FormatInt.f at h
  split at h
  · rename_i hc
    obtain ⟨rfl, h0, h1⟩ := hc
    cases h
    refine (Tryd.strconv_FormatInt_10 a0 h0 h1 w (tab10 hG rfl)).mono ?_
    rintro e w' ⟨rfl, k, os, rfl⟩
    exact ⟨rfl, Lib.below_grow _ _ (Nat.le_refl _) _ _⟩
  · cases h
def strconv_Itoa.f (a0 : Int) : Option ByteArray := if -9223372036854775808 ≤ a0 ∧ a0 ≤ 9223372036854775807 then some ⟨(Lib.itoa a0).toArray⟩ else none
theorem strconv_Itoa.calls (a0 : Int) (r : ByteArray) (w : World) (hG : Glob [2] w) (h : strconv_Itoa.f a0 = some r) :
    Calls Tryd.prog 23 #[.int .i64 a0] w fun e w' => e = .returned (.string r) ∧ Below w.heap.size w w' := by
  unfold strconv_Itoa.f at h
  split at h
  · rename_i hc
    obtain ⟨h0, h1⟩ := hc
    cases h
    refine (Tryd.strconv_Itoa a0 h0 h1 w (tab10 hG rfl)).mono ?_
    rintro e w' ⟨rfl, k, os, rfl⟩
    exact ⟨rfl, Lib.below_grow _ _ (Nat.le_refl _) _ _⟩
  · cases h
end Go.Proofs.YthfibffgmoblaaaDoor
