/- The listed variables of the program, as they were laid: facts of a world that hold on as long as old memory is kept. No conditions beyond those that stand in each theorem. -/
import Derived.Test.YtgcaelopcdpkgaaDoorRows
import Derived.Test.YtgcaelopcdpkgaaDoorFlat
import Derived.Test.YtgcaelopcdpkgaaDoorProg
import Derived.MakeChecks
namespace Go.Proofs.YtgcaelopcdpkgaaDoor
open Go Go.RowKit Flat
set_option maxRecDepth 100000
/-- drachm/style.styles -/
def V0 : World → Prop := FlatVar 0 [.bool false, .int .u8 46, .int .u8 47, .int .u8 0, .int .u8 123, .int .u8 125, .bool true, .int .u8 46, .int .u8 47, .int .u8 0, .int .u8 123, .int .u8 125, .bool false, .int .u8 42, .int .u8 47, .int .u8 94, .int .u8 60, .int .u8 62, .bool true, .int .u8 46, .int .u8 47, .int .u8 0, .int .u8 0, .int .u8 0, .bool false, .int .u8 46, .int .u8 47, .int .u8 94, .int .u8 0, .int .u8 0]
theorem V0_laid {w : World} {l : List (String × DataW Unit)} (hm : laidMet Tryd.prog l w) (hd : ("drachm/style.styles", Rows.laid_drachm_style_styles) ∈ l) : V0 w :=
  FlatVar.of_laid 8 hm hd (g := 0) (t := 37) (by kernel_rfl) (by kernel_rfl) (by kernel_rfl) rfl
def tab (i : Nat) : World → Prop := if i = 0 then V0 else fun _ => True
theorem tab_below (i : Nat) {w W : World} (h : tab i w) (hb : Below w.heap.size w W) : tab i W := by
  by_cases e0 : i = 0
  · subst e0; have h' : V0 w := by simpa [tab] using h
    have k : V0 W := FlatVar.below h' hb
    simpa [tab] using k
  · simp [tab, e0]
def Glob (l : List Nat) (w : World) : Prop := ∀ i ∈ l, tab i w
theorem Glob.use {l m : List Nat} {w W : World} (h : Glob l w) (hs : m.all l.contains = true) (hb : Below w.heap.size w W) : Glob m W := fun i hi => tab_below i (h i (by have := List.all_eq_true.1 hs i hi; simpa using this)) hb
theorem Glob.nil (w : World) : Glob [] w := fun i hi => by cases hi
theorem Glob.cons {i : Nat} {l : List Nat} {w : World} (h : tab i w) (k : Glob l w) : Glob (i :: l) w := fun j hj => by
  rcases List.mem_cons.1 hj with rfl | hj
  · exact h
  · exact k j hj
theorem Glob.v0 {l : List Nat} {w : World} (h : Glob l w) (hs : l.contains 0 = true) : V0 w := by
  have := h 0 (by simpa using hs)
  simpa [tab] using this
end Go.Proofs.YtgcaelopcdpkgaaDoor
