/- Seven numbers by a function. No conditions beyond those in each theorem. -/
import Derived.Test.YthfibffgmoblaaaDoorDi4
import Derived.Test.YthfibffgmoblaaaDoorDi6
import Derived.Test.YthfibffgmoblaaaDoorSq
namespace Go.Proofs.YthfibffgmoblaaaDoor.Di
open Go Go.RowKit Go.Shelf Go.Proofs Go.Proofs.YthfibffgmoblaaaDoor Go.Proofs.YthfibffgmoblaaaDoor.Bu Go.Proofs.YthfibffgmoblaaaDoor.Sq Go.Proofs.YthfibffgmoblaaaDoorW.PrintWords Go.Proofs.YthfibffgmoblaaaDoorW.PrintLast Go.Proofs.YthfibffgmoblaaaDoorW.PrintMore
attribute [local go_sem] max2_int min2_int max_two min_two max_three min_three max_four min_four   -- for this text's walks alone
set_option linter.unusedVariables false
set_option linter.unusedSimpArgs false
/-- Seven numbers, told by a function. -/
abbrev A7 (f : Nat → Int) : Array Value := #[.int .i64 (f 0), .int .i64 (f 1), .int .i64 (f 2), .int .i64 (f 3), .int .i64 (f 4), .int .i64 (f 5), .int .i64 (f 6)]
def upd (f : Nat → Int) (i : Nat) (v : Int) : Nat → Int := fun q => if q = i then v else f q
theorem get7 {w : World} {g : Nat} {t : TypeId} {f : Nat → Int} (h : w.heap[g]? = some (.cells (A7 f) t (0, 0))) (j : Int) (h0 : 0 ≤ j) (h7 : j < 7) : w.cell? ⟨g, j.toNat, none⟩ = some (.int .i64 (f j.toNat)) := by
  obtain ⟨k, rfl⟩ : ∃ k : Nat, j = (k : Int) := ⟨j.toNat, by omega⟩
  rw [Int.toNat_natCast]
  have hk : k = 0 ∨ k = 1 ∨ k = 2 ∨ k = 3 ∨ k = 4 ∨ k = 5 ∨ k = 6 := by omega
  rcases hk with rfl | rfl | rfl | rfl | rfl | rfl | rfl <;> exact (blk_cell h _).trans rfl
theorem put7 {w : World} {g : Nat} {t : TypeId} {f : Nat → Int} (h : w.heap[g]? = some (.cells (A7 f) t (0, 0))) (j v : Int) (h0 : 0 ≤ j) (h7 : j < 7) : (w.setCell ⟨g, j.toNat, none⟩ (.int .i64 v)).heap[g]? = some (.cells (A7 (upd f j.toNat v)) t (0, 0)) := by
  obtain ⟨k, rfl⟩ : ∃ k : Nat, j = (k : Int) := ⟨j.toNat, by omega⟩
  rw [Int.toNat_natCast]
  have hk : k = 0 ∨ k = 1 ∨ k = 2 ∨ k = 3 ∨ k = 4 ∨ k = 5 ∨ k = 6 := by omega
  rcases hk with rfl | rfl | rfl | rfl | rfl | rfl | rfl
  · exact p7_0 h
  · exact p7_1 h
  · exact p7_2 h
  · exact p7_3 h
  · exact p7_4 h
  · exact p7_5 h
  · exact p7_6 h
theorem toL (u : ByteArray) : u.toList = u.data.toList := by
  obtain ⟨⟨l⟩⟩ := u
  simp
abbrev L7 (f : Nat → Int) : List Int := [f 0, f 1, f 2, f 3, f 4, f 5, f 6]
abbrev Z7 : Array Value := A7 fun _ => 0
end Go.Proofs.YthfibffgmoblaaaDoor.Di
