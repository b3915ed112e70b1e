/- The listed variables of the program, as they were laid: facts of a world that hold on as long as old memory is kept. No conditions beyond those that stand in each theorem. -/
import Derived.Test.YtimkhjbnkcgekaaDoorRows
import Derived.Test.YtimkhjbnkcgekaaDoorFlat
import Derived.Test.YtimkhjbnkcgekaaDoorProg
import Derived.MakeChecks
namespace Go.Proofs.YtimkhjbnkcgekaaDoor
open Go Go.RowKit Flat
set_option maxRecDepth 100000
/-- drachm/style.styles -/
def V0 : World → Prop := FlatVar 0 [.bool false, .int .u8 46, .int .u8 47, .int .u8 0, .int .u8 123, .int .u8 125, .bool true, .int .u8 46, .int .u8 47, .int .u8 0, .int .u8 123, .int .u8 125, .bool false, .int .u8 42, .int .u8 47, .int .u8 94, .int .u8 60, .int .u8 62, .bool true, .int .u8 46, .int .u8 47, .int .u8 0, .int .u8 0, .int .u8 0, .bool false, .int .u8 46, .int .u8 47, .int .u8 94, .int .u8 0, .int .u8 0]
theorem V0_laid {w : World} {l : List (String × DataW Unit)} (hm : laidMet Tryd.prog l w) (hd : ("drachm/style.styles", Rows.laid_drachm_style_styles) ∈ l) : V0 w :=
  FlatVar.of_laid 8 hm hd (g := 0) (t := 77) (by kernel_rfl) (by kernel_rfl) (by kernel_rfl) rfl
/-- strconv.ErrSyntax -/
def V1 : World → Prop := IVar 1
theorem V1_laid {w : World} {l : List (String × DataW Unit)} (hm : laidMet Tryd.prog l w) (hd : ("strconv.ErrSyntax", Rows.laid_strconv_ErrSyntax) ∈ l) : V1 w :=
  IVar.of_laid hm hd (g := 1) (ti := 63) (by kernel_rfl) (by kernel_rfl) Tryd.underlying63
/-- strconv.ErrRange -/
def V2 : World → Prop := IVar 2
theorem V2_laid {w : World} {l : List (String × DataW Unit)} (hm : laidMet Tryd.prog l w) (hd : ("strconv.ErrRange", Rows.laid_strconv_ErrRange) ∈ l) : V2 w :=
  IVar.of_laid hm hd (g := 2) (ti := 63) (by kernel_rfl) (by kernel_rfl) Tryd.underlying63
/-- internal/strconv.uint64pow10 -/
def V4 : World → Prop := FlatVar 4 [.int .u64 1, .int .u64 10, .int .u64 100, .int .u64 1000, .int .u64 10000, .int .u64 100000, .int .u64 1000000, .int .u64 10000000, .int .u64 100000000, .int .u64 1000000000, .int .u64 10000000000, .int .u64 100000000000, .int .u64 1000000000000, .int .u64 10000000000000, .int .u64 100000000000000, .int .u64 1000000000000000, .int .u64 10000000000000000, .int .u64 100000000000000000, .int .u64 1000000000000000000, .int .u64 10000000000000000000]
theorem V4_laid {w : World} {l : List (String × DataW Unit)} (hm : laidMet Tryd.prog l w) (hd : ("internal/strconv.uint64pow10", Rows.laid_internal_strconv_uint64pow10) ∈ l) : V4 w :=
  FlatVar.of_laid 8 hm hd (g := 4) (t := 114) (by kernel_rfl) (by kernel_rfl) (by kernel_rfl) rfl
/-- math/bits.deBruijn32tab -/
def V5 : World → Prop := FlatVar 5 [.int .u8 0, .int .u8 1, .int .u8 28, .int .u8 2, .int .u8 29, .int .u8 14, .int .u8 24, .int .u8 3, .int .u8 30, .int .u8 22, .int .u8 20, .int .u8 15, .int .u8 25, .int .u8 17, .int .u8 4, .int .u8 8, .int .u8 31, .int .u8 27, .int .u8 13, .int .u8 23, .int .u8 21, .int .u8 19, .int .u8 16, .int .u8 7, .int .u8 26, .int .u8 12, .int .u8 18, .int .u8 6, .int .u8 11, .int .u8 5, .int .u8 10, .int .u8 9]
theorem V5_laid {w : World} {l : List (String × DataW Unit)} (hm : laidMet Tryd.prog l w) (hd : ("math/bits.deBruijn32tab", Rows.laid_math_bits_deBruijn32tab) ∈ l) : V5 w :=
  FlatVar.of_laid 8 hm hd (g := 5) (t := 120) (by kernel_rfl) (by kernel_rfl) (by kernel_rfl) rfl
/-- math/bits.deBruijn64tab -/
def V6 : World → Prop := FlatVar 6 [.int .u8 0, .int .u8 1, .int .u8 56, .int .u8 2, .int .u8 57, .int .u8 49, .int .u8 28, .int .u8 3, .int .u8 61, .int .u8 58, .int .u8 42, .int .u8 50, .int .u8 38, .int .u8 29, .int .u8 17, .int .u8 4, .int .u8 62, .int .u8 47, .int .u8 59, .int .u8 36, .int .u8 45, .int .u8 43, .int .u8 51, .int .u8 22, .int .u8 53, .int .u8 39, .int .u8 33, .int .u8 30, .int .u8 24, .int .u8 18, .int .u8 12, .int .u8 5, .int .u8 63, .int .u8 55, .int .u8 48, .int .u8 27, .int .u8 60, .int .u8 41, .int .u8 37, .int .u8 16, .int .u8 46, .int .u8 35, .int .u8 44, .int .u8 21, .int .u8 52, .int .u8 32, .int .u8 23, .int .u8 11, .int .u8 54, .int .u8 26, .int .u8 40, .int .u8 15, .int .u8 34, .int .u8 20, .int .u8 31, .int .u8 10, .int .u8 25, .int .u8 14, .int .u8 19, .int .u8 9, .int .u8 13, .int .u8 8, .int .u8 7, .int .u8 6]
theorem V6_laid {w : World} {l : List (String × DataW Unit)} (hm : laidMet Tryd.prog l w) (hd : ("math/bits.deBruijn64tab", Rows.laid_math_bits_deBruijn64tab) ∈ l) : V6 w :=
  FlatVar.of_laid 8 hm hd (g := 6) (t := 121) (by kernel_rfl) (by kernel_rfl) (by kernel_rfl) rfl
def tab (i : Nat) : World → Prop := if i = 0 then V0 else if i = 1 then V1 else if i = 2 then V2 else if i = 4 then V4 else if i = 5 then V5 else if i = 6 then V6 else fun _ => True
theorem tab_below (i : Nat) {w W : World} (h : tab i w) (hb : Below w.heap.size w W) : tab i W := by
  by_cases e0 : i = 0
  · subst e0; have h' : V0 w := by simpa [tab] using h
    have k : V0 W := FlatVar.below h' hb
    simpa [tab] using k
  by_cases e1 : i = 1
  · subst e1; have h' : V1 w := by simpa [tab] using h
    have k : V1 W := IVar.below h' hb
    simpa [tab] using k
  by_cases e2 : i = 2
  · subst e2; have h' : V2 w := by simpa [tab] using h
    have k : V2 W := IVar.below h' hb
    simpa [tab] using k
  by_cases e4 : i = 4
  · subst e4; have h' : V4 w := by simpa [tab] using h
    have k : V4 W := FlatVar.below h' hb
    simpa [tab] using k
  by_cases e5 : i = 5
  · subst e5; have h' : V5 w := by simpa [tab] using h
    have k : V5 W := FlatVar.below h' hb
    simpa [tab] using k
  by_cases e6 : i = 6
  · subst e6; have h' : V6 w := by simpa [tab] using h
    have k : V6 W := FlatVar.below h' hb
    simpa [tab] using k
  · simp [tab, e0, e1, e2, e4, e5, e6]
def Glob (l : List Nat) (w : World) : Prop := ∀ i ∈ l, tab i w
theorem Glob.use {l m : List Nat} {w W : World} (h : Glob l w) (hs : m.all l.contains = true) (hb : Below w.heap.size w W) : Glob m W := fun i hi => tab_below i (h i (by have := List.all_eq_true.1 hs i hi; simpa using this)) hb
theorem Glob.nil (w : World) : Glob [] w := fun i hi => by cases hi
theorem Glob.cons {i : Nat} {l : List Nat} {w : World} (h : tab i w) (k : Glob l w) : Glob (i :: l) w := fun j hj => by
  rcases List.mem_cons.1 hj with rfl | hj
  · exact h
  · exact k j hj
theorem Glob.v0 {l : List Nat} {w : World} (h : Glob l w) (hs : l.contains 0 = true) : V0 w := by
  have := h 0 (by simpa using hs)
  simpa [tab] using this
theorem Glob.v1 {l : List Nat} {w : World} (h : Glob l w) (hs : l.contains 1 = true) : V1 w := by
  have := h 1 (by simpa using hs)
  simpa [tab] using this
theorem Glob.v2 {l : List Nat} {w : World} (h : Glob l w) (hs : l.contains 2 = true) : V2 w := by
  have := h 2 (by simpa using hs)
  simpa [tab] using this
theorem Glob.v4 {l : List Nat} {w : World} (h : Glob l w) (hs : l.contains 4 = true) : V4 w := by
  have := h 4 (by simpa using hs)
  simpa [tab] using this
theorem Glob.v5 {l : List Nat} {w : World} (h : Glob l w) (hs : l.contains 5 = true) : V5 w := by
  have := h 5 (by simpa using hs)
  simpa [tab] using this
theorem Glob.v6 {l : List Nat} {w : World} (h : Glob l w) (hs : l.contains 6 = true) : V6 w := by
  have := h 6 (by simpa using hs)
  simpa [tab] using this
end Go.Proofs.YtimkhjbnkcgekaaDoor
