/- Printed by a program of this session (wip/tools/prt.py) out of the translation: plain functions, and that the calls come to just them. No conditions beyond those that stand in each theorem. -/
import Derived.Test.YtkogfbgeepgjgaaPEditOnex0
import Derived.Test.YtkogfbgeepgjgaaPEditOnex1
namespace Go.Proofs.Ytkogfbgeepgjgaa.PEditOne
open Go.RowKit Go.Proofs.YtkogfbgeepgjgaaW.PrintWords Go.Proofs.YtkogfbgeepgjgaaW.PrintLast Go.Proofs.YtkogfbgeepgjgaaW.PrintMore Go.Proofs.Ytkogfbgeepgjgaa.PBase
attribute [local go_sem] max2_int min2_int max_two min_two max_three min_three max_four min_four   -- for this text's walks alone
set_option linter.unusedVariables false
set_option linter.unusedSimpArgs false

/-! ### drachmlaw16_EditOne: function 5 -/
mutual
def drachmlaw16_EditOne.j0 : Nat → Bool → ByteArray → ByteArray → ByteArray → ByteArray → Option (Bool)
  | 0, _, _, _, _, _ => none
  | k + 1, x7, x8, x10, x103000, x103001 => if x8.toList = x10.toList then (drachmlaw16_EditOne.j1 k x7 x8 x10 0 x103000 x103001) else (drachmlaw16_EditOne.j1 k x7 x8 x10 1 x103000 x103001)
def drachmlaw16_EditOne.j1 : Nat → Bool → ByteArray → ByteArray → Int → ByteArray → ByteArray → Option (Bool)
  | 0, _, _, _, _, _, _ => none
  | k + 1, x7, x8, x10, x11, x103000, x103001 => (drachmlaw16_short.f x103001).bind fun t112 => (if x7 = true then ((edit_Distance.f x8 x10).bind fun t113 => (if t113 = x11 then (if t112.size + x8.size ≤ 9223372036854775807 then (if t112.size + x10.size ≤ 9223372036854775807 then ((edit_Distance.f (t112 ++ x8) (t112 ++ x10)).bind fun t114 => (if t114 = x11 then (if x8.size + t112.size ≤ 9223372036854775807 then (if x10.size + t112.size ≤ 9223372036854775807 then ((edit_Distance.f (x8 ++ t112) (x10 ++ t112)).bind fun t115 => (some (t115 == x11))) else (none)) else (none)) else (some false))) else (none)) else (none)) else (some false))) else (some false))
end
def drachmlaw16_EditOne.f (k : Nat) (a0_0 : ByteArray) (a0_1 : ByteArray) (a1_0 : Int) (a1_1 : Int) (a2 : Int) : Option (Bool) := (drachmlaw16_awake.f).bind fun t104 => ((drachmlaw16_short.f a0_0).bind fun t105 => (if (wrap64 ((t105.size : Int) + 1)) = 0 then (none) else (if (Int.tmod (wrap64 ((Int.tmod a1_1 3) + 3)) 3) = 0 then (if (Int.tmod (wrap64 ((wrap64 ((Int.tmod a1_0 (wrap64 ((t105.size : Int) + 1))) + (t105.size : Int))) + 1)) (wrap64 ((t105.size : Int) + 1))) < (t105.size : Int) then (if 0 ≤ (Int.tmod (wrap64 ((wrap64 ((Int.tmod a1_0 (wrap64 ((t105.size : Int) + 1))) + (t105.size : Int))) + 1)) (wrap64 ((t105.size : Int) + 1))) then (if (Int.tmod (wrap64 ((wrap64 ((Int.tmod a1_0 (wrap64 ((t105.size : Int) + 1))) + (t105.size : Int))) + 1)) (wrap64 ((t105.size : Int) + 1))) ≤ (t105.size : Int) then (if 0 ≤ (wrap64 ((Int.tmod (wrap64 ((wrap64 ((Int.tmod a1_0 (wrap64 ((t105.size : Int) + 1))) + (t105.size : Int))) + 1)) (wrap64 ((t105.size : Int) + 1))) + 1)) then (if (wrap64 ((Int.tmod (wrap64 ((wrap64 ((Int.tmod a1_0 (wrap64 ((t105.size : Int) + 1))) + (t105.size : Int))) + 1)) (wrap64 ((t105.size : Int) + 1))) + 1)) ≤ (t105.size : Int) then (if (t105.extract 0 ((Int.tmod (wrap64 ((wrap64 ((Int.tmod a1_0 (wrap64 ((t105.size : Int) + 1))) + (t105.size : Int))) + 1)) (wrap64 ((t105.size : Int) + 1))) : Int).toNat).size + (t105.extract ((wrap64 ((Int.tmod (wrap64 ((wrap64 ((Int.tmod a1_0 (wrap64 ((t105.size : Int) + 1))) + (t105.size : Int))) + 1)) (wrap64 ((t105.size : Int) + 1))) + 1)) : Int).toNat t105.size).size ≤ 9223372036854775807 then (drachmlaw16_EditOne.j0 k t104 t105 ((t105.extract 0 ((Int.tmod (wrap64 ((wrap64 ((Int.tmod a1_0 (wrap64 ((t105.size : Int) + 1))) + (t105.size : Int))) + 1)) (wrap64 ((t105.size : Int) + 1))) : Int).toNat) ++ (t105.extract ((wrap64 ((Int.tmod (wrap64 ((wrap64 ((Int.tmod a1_0 (wrap64 ((t105.size : Int) + 1))) + (t105.size : Int))) + 1)) (wrap64 ((t105.size : Int) + 1))) + 1)) : Int).toNat t105.size)) a0_0 a0_1) else (none)) else (none)) else (none)) else (none)) else (none)) else (drachmlaw16_EditOne.j0 k t104 t105 t105 a0_0 a0_1)) else (if (Int.tmod (wrap64 ((Int.tmod a1_1 3) + 3)) 3) = 1 then (if 0 ≤ (Int.tmod (wrap64 ((wrap64 ((Int.tmod a1_0 (wrap64 ((t105.size : Int) + 1))) + (t105.size : Int))) + 1)) (wrap64 ((t105.size : Int) + 1))) then (if (Int.tmod (wrap64 ((wrap64 ((Int.tmod a1_0 (wrap64 ((t105.size : Int) + 1))) + (t105.size : Int))) + 1)) (wrap64 ((t105.size : Int) + 1))) ≤ (t105.size : Int) then ((some (([a2] : List Int) : List Int)).bind fun y106 => (if (t105.extract 0 ((Int.tmod (wrap64 ((wrap64 ((Int.tmod a1_0 (wrap64 ((t105.size : Int) + 1))) + (t105.size : Int))) + 1)) (wrap64 ((t105.size : Int) + 1))) : Int).toNat).size + (strOfNums y106).size ≤ 9223372036854775807 then (if ((t105.extract 0 ((Int.tmod (wrap64 ((wrap64 ((Int.tmod a1_0 (wrap64 ((t105.size : Int) + 1))) + (t105.size : Int))) + 1)) (wrap64 ((t105.size : Int) + 1))) : Int).toNat) ++ (strOfNums y106)).size + (t105.extract ((Int.tmod (wrap64 ((wrap64 ((Int.tmod a1_0 (wrap64 ((t105.size : Int) + 1))) + (t105.size : Int))) + 1)) (wrap64 ((t105.size : Int) + 1))) : Int).toNat t105.size).size ≤ 9223372036854775807 then (drachmlaw16_EditOne.j0 k t104 t105 (((t105.extract 0 ((Int.tmod (wrap64 ((wrap64 ((Int.tmod a1_0 (wrap64 ((t105.size : Int) + 1))) + (t105.size : Int))) + 1)) (wrap64 ((t105.size : Int) + 1))) : Int).toNat) ++ (strOfNums y106)) ++ (t105.extract ((Int.tmod (wrap64 ((wrap64 ((Int.tmod a1_0 (wrap64 ((t105.size : Int) + 1))) + (t105.size : Int))) + 1)) (wrap64 ((t105.size : Int) + 1))) : Int).toNat t105.size)) a0_0 a0_1) else (none)) else (none))) else (none)) else (none)) else (if (Int.tmod (wrap64 ((wrap64 ((Int.tmod a1_0 (wrap64 ((t105.size : Int) + 1))) + (t105.size : Int))) + 1)) (wrap64 ((t105.size : Int) + 1))) < (t105.size : Int) then (if 0 ≤ (Int.tmod (wrap64 ((wrap64 ((Int.tmod a1_0 (wrap64 ((t105.size : Int) + 1))) + (t105.size : Int))) + 1)) (wrap64 ((t105.size : Int) + 1))) then (if (Int.tmod (wrap64 ((wrap64 ((Int.tmod a1_0 (wrap64 ((t105.size : Int) + 1))) + (t105.size : Int))) + 1)) (wrap64 ((t105.size : Int) + 1))) ≤ (t105.size : Int) then ((some (([a2] : List Int) : List Int)).bind fun y109 => (if (t105.extract 0 ((Int.tmod (wrap64 ((wrap64 ((Int.tmod a1_0 (wrap64 ((t105.size : Int) + 1))) + (t105.size : Int))) + 1)) (wrap64 ((t105.size : Int) + 1))) : Int).toNat).size + (strOfNums y109).size ≤ 9223372036854775807 then (if 0 ≤ (wrap64 ((Int.tmod (wrap64 ((wrap64 ((Int.tmod a1_0 (wrap64 ((t105.size : Int) + 1))) + (t105.size : Int))) + 1)) (wrap64 ((t105.size : Int) + 1))) + 1)) then (if (wrap64 ((Int.tmod (wrap64 ((wrap64 ((Int.tmod a1_0 (wrap64 ((t105.size : Int) + 1))) + (t105.size : Int))) + 1)) (wrap64 ((t105.size : Int) + 1))) + 1)) ≤ (t105.size : Int) then (if ((t105.extract 0 ((Int.tmod (wrap64 ((wrap64 ((Int.tmod a1_0 (wrap64 ((t105.size : Int) + 1))) + (t105.size : Int))) + 1)) (wrap64 ((t105.size : Int) + 1))) : Int).toNat) ++ (strOfNums y109)).size + (t105.extract ((wrap64 ((Int.tmod (wrap64 ((wrap64 ((Int.tmod a1_0 (wrap64 ((t105.size : Int) + 1))) + (t105.size : Int))) + 1)) (wrap64 ((t105.size : Int) + 1))) + 1)) : Int).toNat t105.size).size ≤ 9223372036854775807 then (drachmlaw16_EditOne.j0 k t104 t105 (((t105.extract 0 ((Int.tmod (wrap64 ((wrap64 ((Int.tmod a1_0 (wrap64 ((t105.size : Int) + 1))) + (t105.size : Int))) + 1)) (wrap64 ((t105.size : Int) + 1))) : Int).toNat) ++ (strOfNums y109)) ++ (t105.extract ((wrap64 ((Int.tmod (wrap64 ((wrap64 ((Int.tmod a1_0 (wrap64 ((t105.size : Int) + 1))) + (t105.size : Int))) + 1)) (wrap64 ((t105.size : Int) + 1))) + 1)) : Int).toNat t105.size)) a0_0 a0_1) else (none)) else (none)) else (none)) else (none))) else (none)) else (none)) else (drachmlaw16_EditOne.j0 k t104 t105 t105 a0_0 a0_1))))))
theorem drachmlaw16_EditOne.mono_l : ∀ k, (∀ y0 y1 y2 y3 y4, LeO (drachmlaw16_EditOne.j0 k y0 y1 y2 y3 y4) (drachmlaw16_EditOne.j0 (k + 1) y0 y1 y2 y3 y4)) ∧ (∀ y0 y1 y2 y3 y4 y5, LeO (drachmlaw16_EditOne.j1 k y0 y1 y2 y3 y4 y5) (drachmlaw16_EditOne.j1 (k + 1) y0 y1 y2 y3 y4 y5))
  | 0 => ⟨fun _ _ _ _ _ r h => by simp [drachmlaw16_EditOne.j0] at h, fun _ _ _ _ _ _ r h => by simp [drachmlaw16_EditOne.j1] at h⟩
  | k + 1 => by
    obtain ⟨ih0, ih1⟩ := drachmlaw16_EditOne.mono_l k
    refine ⟨?_, ?_⟩
    · intro y0 y1 y2 y3 y4
      unfold drachmlaw16_EditOne.j0
      repeat' first
      | (with_reducible exact ih0 _ _ _ _ _)
      | (with_reducible exact ih1 _ _ _ _ _ _)
      | (with_reducible exact LeO.refl _)
      | (with_reducible exact LeO.none _)
      | (with_reducible refine LeO.ite ?_ ?_)
      | (with_reducible refine LeO.bind ?_ (fun _ => ?_))
      | exact ih0 _ _ _ _ _
      | exact ih1 _ _ _ _ _ _
      | exact LeO.none _
      | refine LeO.ite ?_ ?_
      | refine LeO.bind ?_ (fun _ => ?_)
    · intro y0 y1 y2 y3 y4 y5
      unfold drachmlaw16_EditOne.j1
      repeat' first
      | (with_reducible exact ih0 _ _ _ _ _)
      | (with_reducible exact ih1 _ _ _ _ _ _)
      | (with_reducible exact LeO.refl _)
      | (with_reducible exact LeO.none _)
      | (with_reducible refine LeO.ite ?_ ?_)
      | (with_reducible refine LeO.bind ?_ (fun _ => ?_))
      | exact ih0 _ _ _ _ _
      | exact ih1 _ _ _ _ _ _
      | exact LeO.none _
      | refine LeO.ite ?_ ?_
      | refine LeO.bind ?_ (fun _ => ?_)
theorem drachmlaw16_EditOne.mono : ∀ a0 a1 a2 a3 a4 k, LeO (drachmlaw16_EditOne.f k a0 a1 a2 a3 a4) (drachmlaw16_EditOne.f (k + 1) a0 a1 a2 a3 a4) := by
  intro a0 a1 a2 a3 a4 k
  obtain ⟨ih0, ih1⟩ := drachmlaw16_EditOne.mono_l k
  unfold drachmlaw16_EditOne.f
  repeat' first
      | (with_reducible exact ih0 _ _ _ _ _)
      | (with_reducible exact ih1 _ _ _ _ _ _)
      | (with_reducible exact LeO.refl _)
      | (with_reducible exact LeO.none _)
      | (with_reducible refine LeO.ite ?_ ?_)
      | (with_reducible refine LeO.bind ?_ (fun _ => ?_))
      | exact ih0 _ _ _ _ _
      | exact ih1 _ _ _ _ _ _
      | exact LeO.none _
      | refine LeO.ite ?_ ?_
      | refine LeO.bind ?_ (fun _ => ?_)
def drachmlaw16_EditOne.T7 : Bool × List (List Nat × List Nat) := (true, [([], []), ([], []), ([0, 1], [0, 1]), ([], []), ([3], [3]), ([4], [4]), ([2, 5], [2, 5]), ([], []), ([], []), ([8], [8]), ([7, 9], [7, 9]), ([6, 10], [6, 10]), ([11, 0, 1, 2, 3, 4, 5, 6, 7, 8, 9, 10, 11], [11])])
def drachmlaw16_EditOne.B7 : List Nat := [0, 0, 3, 0, 8, 24, 63, 0, 0, 256, 896, 2047, 4095]
theorem drachmlaw16_EditOne.tab7 : rtab .any (opsOf Try.f5 7) = drachmlaw16_EditOne.T7 := by kernel_rfl
theorem drachmlaw16_EditOne.bits7 : waitsOk drachmlaw16_EditOne.T7.2 drachmlaw16_EditOne.B7 = true := by kernel_rfl
def drachmlaw16_EditOne.T10 : Bool × List (List Nat × List Nat) := (true, [([], []), ([], []), ([0, 1], [0, 1]), ([], []), ([], []), ([4], [4]), ([3, 5], [3, 5]), ([2, 6], [2, 6]), ([7, 0, 1, 2, 3, 4, 5, 6, 7], [7])])
def drachmlaw16_EditOne.B10 : List Nat := [0, 0, 3, 0, 0, 16, 56, 127, 255]
theorem drachmlaw16_EditOne.tab10 : rtab .any (opsOf Try.f5 10) = drachmlaw16_EditOne.T10 := by kernel_rfl
theorem drachmlaw16_EditOne.bits10 : waitsOk drachmlaw16_EditOne.T10.2 drachmlaw16_EditOne.B10 = true := by kernel_rfl
def drachmlaw16_EditOne.T12 : Bool × List (List Nat × List Nat) := (true, [([], []), ([], []), ([0, 1], [0, 1]), ([], []), ([3], [3]), ([4], [4]), ([2, 5], [2, 5]), ([], []), ([], []), ([7, 8], [7, 8]), ([6, 9], [6, 9]), ([10, 0, 1, 2, 3, 4, 5, 6, 7, 8, 9, 10], [10])])
def drachmlaw16_EditOne.B12 : List Nat := [0, 0, 3, 0, 8, 24, 63, 0, 0, 384, 1023, 2047]
theorem drachmlaw16_EditOne.tab12 : rtab .any (opsOf Try.f5 12) = drachmlaw16_EditOne.T12 := by kernel_rfl
theorem drachmlaw16_EditOne.bits12 : waitsOk drachmlaw16_EditOne.T12.2 drachmlaw16_EditOne.B12 = true := by kernel_rfl
set_option maxHeartbeats 8000000 in
set_option maxRecDepth 100000 in
theorem drachmlaw16_EditOne.calls (k : Nat) (a0_0 : ByteArray) (a0_1 : ByteArray) (a1_0 : Int) (a1_1 : Int) (a2 : Int) (r : Bool) (w : World) (h : drachmlaw16_EditOne.f k a0_0 a0_1 a1_0 a1_1 a2 = some r) :
    Calls Try.prog 5 #[.agg #[.string a0_0, .string a0_1], .agg #[.int .i64 a1_0, .int .i64 a1_1], .int .u8 a2] w fun e w' => e = .returned (.bool r) ∧ Below w.heap.size w w' := by
  have hu30 := Try.underlying30
  have hu31 := Try.underlying31
  have HB := Aside0.mk (Below.refl w.heap.size w)
  have H : ((drachmlaw16_awake.f).bind fun t104 => ((drachmlaw16_short.f a0_0).bind fun t105 => (if (wrap64 ((t105.size : Int) + 1)) = 0 then (none) else (if (Int.tmod (wrap64 ((Int.tmod a1_1 3) + 3)) 3) = 0 then (if (Int.tmod (wrap64 ((wrap64 ((Int.tmod a1_0 (wrap64 ((t105.size : Int) + 1))) + (t105.size : Int))) + 1)) (wrap64 ((t105.size : Int) + 1))) < (t105.size : Int) then (if 0 ≤ (Int.tmod (wrap64 ((wrap64 ((Int.tmod a1_0 (wrap64 ((t105.size : Int) + 1))) + (t105.size : Int))) + 1)) (wrap64 ((t105.size : Int) + 1))) then (if (Int.tmod (wrap64 ((wrap64 ((Int.tmod a1_0 (wrap64 ((t105.size : Int) + 1))) + (t105.size : Int))) + 1)) (wrap64 ((t105.size : Int) + 1))) ≤ (t105.size : Int) then (if 0 ≤ (wrap64 ((Int.tmod (wrap64 ((wrap64 ((Int.tmod a1_0 (wrap64 ((t105.size : Int) + 1))) + (t105.size : Int))) + 1)) (wrap64 ((t105.size : Int) + 1))) + 1)) then (if (wrap64 ((Int.tmod (wrap64 ((wrap64 ((Int.tmod a1_0 (wrap64 ((t105.size : Int) + 1))) + (t105.size : Int))) + 1)) (wrap64 ((t105.size : Int) + 1))) + 1)) ≤ (t105.size : Int) then (if (t105.extract 0 ((Int.tmod (wrap64 ((wrap64 ((Int.tmod a1_0 (wrap64 ((t105.size : Int) + 1))) + (t105.size : Int))) + 1)) (wrap64 ((t105.size : Int) + 1))) : Int).toNat).size + (t105.extract ((wrap64 ((Int.tmod (wrap64 ((wrap64 ((Int.tmod a1_0 (wrap64 ((t105.size : Int) + 1))) + (t105.size : Int))) + 1)) (wrap64 ((t105.size : Int) + 1))) + 1)) : Int).toNat t105.size).size ≤ 9223372036854775807 then (drachmlaw16_EditOne.j0 k t104 t105 ((t105.extract 0 ((Int.tmod (wrap64 ((wrap64 ((Int.tmod a1_0 (wrap64 ((t105.size : Int) + 1))) + (t105.size : Int))) + 1)) (wrap64 ((t105.size : Int) + 1))) : Int).toNat) ++ (t105.extract ((wrap64 ((Int.tmod (wrap64 ((wrap64 ((Int.tmod a1_0 (wrap64 ((t105.size : Int) + 1))) + (t105.size : Int))) + 1)) (wrap64 ((t105.size : Int) + 1))) + 1)) : Int).toNat t105.size)) a0_0 a0_1) else (none)) else (none)) else (none)) else (none)) else (none)) else (drachmlaw16_EditOne.j0 k t104 t105 t105 a0_0 a0_1)) else (if (Int.tmod (wrap64 ((Int.tmod a1_1 3) + 3)) 3) = 1 then (if 0 ≤ (Int.tmod (wrap64 ((wrap64 ((Int.tmod a1_0 (wrap64 ((t105.size : Int) + 1))) + (t105.size : Int))) + 1)) (wrap64 ((t105.size : Int) + 1))) then (if (Int.tmod (wrap64 ((wrap64 ((Int.tmod a1_0 (wrap64 ((t105.size : Int) + 1))) + (t105.size : Int))) + 1)) (wrap64 ((t105.size : Int) + 1))) ≤ (t105.size : Int) then ((some (([a2] : List Int) : List Int)).bind fun y106 => (if (t105.extract 0 ((Int.tmod (wrap64 ((wrap64 ((Int.tmod a1_0 (wrap64 ((t105.size : Int) + 1))) + (t105.size : Int))) + 1)) (wrap64 ((t105.size : Int) + 1))) : Int).toNat).size + (strOfNums y106).size ≤ 9223372036854775807 then (if ((t105.extract 0 ((Int.tmod (wrap64 ((wrap64 ((Int.tmod a1_0 (wrap64 ((t105.size : Int) + 1))) + (t105.size : Int))) + 1)) (wrap64 ((t105.size : Int) + 1))) : Int).toNat) ++ (strOfNums y106)).size + (t105.extract ((Int.tmod (wrap64 ((wrap64 ((Int.tmod a1_0 (wrap64 ((t105.size : Int) + 1))) + (t105.size : Int))) + 1)) (wrap64 ((t105.size : Int) + 1))) : Int).toNat t105.size).size ≤ 9223372036854775807 then (drachmlaw16_EditOne.j0 k t104 t105 (((t105.extract 0 ((Int.tmod (wrap64 ((wrap64 ((Int.tmod a1_0 (wrap64 ((t105.size : Int) + 1))) + (t105.size : Int))) + 1)) (wrap64 ((t105.size : Int) + 1))) : Int).toNat) ++ (strOfNums y106)) ++ (t105.extract ((Int.tmod (wrap64 ((wrap64 ((Int.tmod a1_0 (wrap64 ((t105.size : Int) + 1))) + (t105.size : Int))) + 1)) (wrap64 ((t105.size : Int) + 1))) : Int).toNat t105.size)) a0_0 a0_1) else (none)) else (none))) else (none)) else (none)) else (if (Int.tmod (wrap64 ((wrap64 ((Int.tmod a1_0 (wrap64 ((t105.size : Int) + 1))) + (t105.size : Int))) + 1)) (wrap64 ((t105.size : Int) + 1))) < (t105.size : Int) then (if 0 ≤ (Int.tmod (wrap64 ((wrap64 ((Int.tmod a1_0 (wrap64 ((t105.size : Int) + 1))) + (t105.size : Int))) + 1)) (wrap64 ((t105.size : Int) + 1))) then (if (Int.tmod (wrap64 ((wrap64 ((Int.tmod a1_0 (wrap64 ((t105.size : Int) + 1))) + (t105.size : Int))) + 1)) (wrap64 ((t105.size : Int) + 1))) ≤ (t105.size : Int) then ((some (([a2] : List Int) : List Int)).bind fun y109 => (if (t105.extract 0 ((Int.tmod (wrap64 ((wrap64 ((Int.tmod a1_0 (wrap64 ((t105.size : Int) + 1))) + (t105.size : Int))) + 1)) (wrap64 ((t105.size : Int) + 1))) : Int).toNat).size + (strOfNums y109).size ≤ 9223372036854775807 then (if 0 ≤ (wrap64 ((Int.tmod (wrap64 ((wrap64 ((Int.tmod a1_0 (wrap64 ((t105.size : Int) + 1))) + (t105.size : Int))) + 1)) (wrap64 ((t105.size : Int) + 1))) + 1)) then (if (wrap64 ((Int.tmod (wrap64 ((wrap64 ((Int.tmod a1_0 (wrap64 ((t105.size : Int) + 1))) + (t105.size : Int))) + 1)) (wrap64 ((t105.size : Int) + 1))) + 1)) ≤ (t105.size : Int) then (if ((t105.extract 0 ((Int.tmod (wrap64 ((wrap64 ((Int.tmod a1_0 (wrap64 ((t105.size : Int) + 1))) + (t105.size : Int))) + 1)) (wrap64 ((t105.size : Int) + 1))) : Int).toNat) ++ (strOfNums y109)).size + (t105.extract ((wrap64 ((Int.tmod (wrap64 ((wrap64 ((Int.tmod a1_0 (wrap64 ((t105.size : Int) + 1))) + (t105.size : Int))) + 1)) (wrap64 ((t105.size : Int) + 1))) + 1)) : Int).toNat t105.size).size ≤ 9223372036854775807 then (drachmlaw16_EditOne.j0 k t104 t105 (((t105.extract 0 ((Int.tmod (wrap64 ((wrap64 ((Int.tmod a1_0 (wrap64 ((t105.size : Int) + 1))) + (t105.size : Int))) + 1)) (wrap64 ((t105.size : Int) + 1))) : Int).toNat) ++ (strOfNums y109)) ++ (t105.extract ((wrap64 ((Int.tmod (wrap64 ((wrap64 ((Int.tmod a1_0 (wrap64 ((t105.size : Int) + 1))) + (t105.size : Int))) + 1)) (wrap64 ((t105.size : Int) + 1))) + 1)) : Int).toNat t105.size)) a0_0 a0_1) else (none)) else (none)) else (none)) else (none))) else (none)) else (none)) else (drachmlaw16_EditOne.j0 k t104 t105 t105 a0_0 a0_1))))))) = some r := h
  clear h
  replace H := Option.bind_eq_some_iff.mp H
  obtain ⟨t104, A40, H⟩ := H
  replace H : ((drachmlaw16_short.f a0_0).bind fun t105 => (if (wrap64 ((t105.size : Int) + 1)) = 0 then (none) else (if (Int.tmod (wrap64 ((Int.tmod a1_1 3) + 3)) 3) = 0 then (if (Int.tmod (wrap64 ((wrap64 ((Int.tmod a1_0 (wrap64 ((t105.size : Int) + 1))) + (t105.size : Int))) + 1)) (wrap64 ((t105.size : Int) + 1))) < (t105.size : Int) then (if 0 ≤ (Int.tmod (wrap64 ((wrap64 ((Int.tmod a1_0 (wrap64 ((t105.size : Int) + 1))) + (t105.size : Int))) + 1)) (wrap64 ((t105.size : Int) + 1))) then (if (Int.tmod (wrap64 ((wrap64 ((Int.tmod a1_0 (wrap64 ((t105.size : Int) + 1))) + (t105.size : Int))) + 1)) (wrap64 ((t105.size : Int) + 1))) ≤ (t105.size : Int) then (if 0 ≤ (wrap64 ((Int.tmod (wrap64 ((wrap64 ((Int.tmod a1_0 (wrap64 ((t105.size : Int) + 1))) + (t105.size : Int))) + 1)) (wrap64 ((t105.size : Int) + 1))) + 1)) then (if (wrap64 ((Int.tmod (wrap64 ((wrap64 ((Int.tmod a1_0 (wrap64 ((t105.size : Int) + 1))) + (t105.size : Int))) + 1)) (wrap64 ((t105.size : Int) + 1))) + 1)) ≤ (t105.size : Int) then (if (t105.extract 0 ((Int.tmod (wrap64 ((wrap64 ((Int.tmod a1_0 (wrap64 ((t105.size : Int) + 1))) + (t105.size : Int))) + 1)) (wrap64 ((t105.size : Int) + 1))) : Int).toNat).size + (t105.extract ((wrap64 ((Int.tmod (wrap64 ((wrap64 ((Int.tmod a1_0 (wrap64 ((t105.size : Int) + 1))) + (t105.size : Int))) + 1)) (wrap64 ((t105.size : Int) + 1))) + 1)) : Int).toNat t105.size).size ≤ 9223372036854775807 then (drachmlaw16_EditOne.j0 k t104 t105 ((t105.extract 0 ((Int.tmod (wrap64 ((wrap64 ((Int.tmod a1_0 (wrap64 ((t105.size : Int) + 1))) + (t105.size : Int))) + 1)) (wrap64 ((t105.size : Int) + 1))) : Int).toNat) ++ (t105.extract ((wrap64 ((Int.tmod (wrap64 ((wrap64 ((Int.tmod a1_0 (wrap64 ((t105.size : Int) + 1))) + (t105.size : Int))) + 1)) (wrap64 ((t105.size : Int) + 1))) + 1)) : Int).toNat t105.size)) a0_0 a0_1) else (none)) else (none)) else (none)) else (none)) else (none)) else (drachmlaw16_EditOne.j0 k t104 t105 t105 a0_0 a0_1)) else (if (Int.tmod (wrap64 ((Int.tmod a1_1 3) + 3)) 3) = 1 then (if 0 ≤ (Int.tmod (wrap64 ((wrap64 ((Int.tmod a1_0 (wrap64 ((t105.size : Int) + 1))) + (t105.size : Int))) + 1)) (wrap64 ((t105.size : Int) + 1))) then (if (Int.tmod (wrap64 ((wrap64 ((Int.tmod a1_0 (wrap64 ((t105.size : Int) + 1))) + (t105.size : Int))) + 1)) (wrap64 ((t105.size : Int) + 1))) ≤ (t105.size : Int) then ((some (([a2] : List Int) : List Int)).bind fun y106 => (if (t105.extract 0 ((Int.tmod (wrap64 ((wrap64 ((Int.tmod a1_0 (wrap64 ((t105.size : Int) + 1))) + (t105.size : Int))) + 1)) (wrap64 ((t105.size : Int) + 1))) : Int).toNat).size + (strOfNums y106).size ≤ 9223372036854775807 then (if ((t105.extract 0 ((Int.tmod (wrap64 ((wrap64 ((Int.tmod a1_0 (wrap64 ((t105.size : Int) + 1))) + (t105.size : Int))) + 1)) (wrap64 ((t105.size : Int) + 1))) : Int).toNat) ++ (strOfNums y106)).size + (t105.extract ((Int.tmod (wrap64 ((wrap64 ((Int.tmod a1_0 (wrap64 ((t105.size : Int) + 1))) + (t105.size : Int))) + 1)) (wrap64 ((t105.size : Int) + 1))) : Int).toNat t105.size).size ≤ 9223372036854775807 then (drachmlaw16_EditOne.j0 k t104 t105 (((t105.extract 0 ((Int.tmod (wrap64 ((wrap64 ((Int.tmod a1_0 (wrap64 ((t105.size : Int) + 1))) + (t105.size : Int))) + 1)) (wrap64 ((t105.size : Int) + 1))) : Int).toNat) ++ (strOfNums y106)) ++ (t105.extract ((Int.tmod (wrap64 ((wrap64 ((Int.tmod a1_0 (wrap64 ((t105.size : Int) + 1))) + (t105.size : Int))) + 1)) (wrap64 ((t105.size : Int) + 1))) : Int).toNat t105.size)) a0_0 a0_1) else (none)) else (none))) else (none)) else (none)) else (if (Int.tmod (wrap64 ((wrap64 ((Int.tmod a1_0 (wrap64 ((t105.size : Int) + 1))) + (t105.size : Int))) + 1)) (wrap64 ((t105.size : Int) + 1))) < (t105.size : Int) then (if 0 ≤ (Int.tmod (wrap64 ((wrap64 ((Int.tmod a1_0 (wrap64 ((t105.size : Int) + 1))) + (t105.size : Int))) + 1)) (wrap64 ((t105.size : Int) + 1))) then (if (Int.tmod (wrap64 ((wrap64 ((Int.tmod a1_0 (wrap64 ((t105.size : Int) + 1))) + (t105.size : Int))) + 1)) (wrap64 ((t105.size : Int) + 1))) ≤ (t105.size : Int) then ((some (([a2] : List Int) : List Int)).bind fun y109 => (if (t105.extract 0 ((Int.tmod (wrap64 ((wrap64 ((Int.tmod a1_0 (wrap64 ((t105.size : Int) + 1))) + (t105.size : Int))) + 1)) (wrap64 ((t105.size : Int) + 1))) : Int).toNat).size + (strOfNums y109).size ≤ 9223372036854775807 then (if 0 ≤ (wrap64 ((Int.tmod (wrap64 ((wrap64 ((Int.tmod a1_0 (wrap64 ((t105.size : Int) + 1))) + (t105.size : Int))) + 1)) (wrap64 ((t105.size : Int) + 1))) + 1)) then (if (wrap64 ((Int.tmod (wrap64 ((wrap64 ((Int.tmod a1_0 (wrap64 ((t105.size : Int) + 1))) + (t105.size : Int))) + 1)) (wrap64 ((t105.size : Int) + 1))) + 1)) ≤ (t105.size : Int) then (if ((t105.extract 0 ((Int.tmod (wrap64 ((wrap64 ((Int.tmod a1_0 (wrap64 ((t105.size : Int) + 1))) + (t105.size : Int))) + 1)) (wrap64 ((t105.size : Int) + 1))) : Int).toNat) ++ (strOfNums y109)).size + (t105.extract ((wrap64 ((Int.tmod (wrap64 ((wrap64 ((Int.tmod a1_0 (wrap64 ((t105.size : Int) + 1))) + (t105.size : Int))) + 1)) (wrap64 ((t105.size : Int) + 1))) + 1)) : Int).toNat t105.size).size ≤ 9223372036854775807 then (drachmlaw16_EditOne.j0 k t104 t105 (((t105.extract 0 ((Int.tmod (wrap64 ((wrap64 ((Int.tmod a1_0 (wrap64 ((t105.size : Int) + 1))) + (t105.size : Int))) + 1)) (wrap64 ((t105.size : Int) + 1))) : Int).toNat) ++ (strOfNums y109)) ++ (t105.extract ((wrap64 ((Int.tmod (wrap64 ((wrap64 ((Int.tmod a1_0 (wrap64 ((t105.size : Int) + 1))) + (t105.size : Int))) + 1)) (wrap64 ((t105.size : Int) + 1))) + 1)) : Int).toNat t105.size)) a0_0 a0_1) else (none)) else (none)) else (none)) else (none))) else (none)) else (none)) else (drachmlaw16_EditOne.j0 k t104 t105 t105 a0_0 a0_1)))))) = some r := H
  have A4 := Aside0.mk A40
  clear A40
  replace H := Option.bind_eq_some_iff.mp H
  obtain ⟨t105, A50, H⟩ := H
  replace H : (if (wrap64 ((t105.size : Int) + 1)) = 0 then (none) else (if (Int.tmod (wrap64 ((Int.tmod a1_1 3) + 3)) 3) = 0 then (if (Int.tmod (wrap64 ((wrap64 ((Int.tmod a1_0 (wrap64 ((t105.size : Int) + 1))) + (t105.size : Int))) + 1)) (wrap64 ((t105.size : Int) + 1))) < (t105.size : Int) then (if 0 ≤ (Int.tmod (wrap64 ((wrap64 ((Int.tmod a1_0 (wrap64 ((t105.size : Int) + 1))) + (t105.size : Int))) + 1)) (wrap64 ((t105.size : Int) + 1))) then (if (Int.tmod (wrap64 ((wrap64 ((Int.tmod a1_0 (wrap64 ((t105.size : Int) + 1))) + (t105.size : Int))) + 1)) (wrap64 ((t105.size : Int) + 1))) ≤ (t105.size : Int) then (if 0 ≤ (wrap64 ((Int.tmod (wrap64 ((wrap64 ((Int.tmod a1_0 (wrap64 ((t105.size : Int) + 1))) + (t105.size : Int))) + 1)) (wrap64 ((t105.size : Int) + 1))) + 1)) then (if (wrap64 ((Int.tmod (wrap64 ((wrap64 ((Int.tmod a1_0 (wrap64 ((t105.size : Int) + 1))) + (t105.size : Int))) + 1)) (wrap64 ((t105.size : Int) + 1))) + 1)) ≤ (t105.size : Int) then (if (t105.extract 0 ((Int.tmod (wrap64 ((wrap64 ((Int.tmod a1_0 (wrap64 ((t105.size : Int) + 1))) + (t105.size : Int))) + 1)) (wrap64 ((t105.size : Int) + 1))) : Int).toNat).size + (t105.extract ((wrap64 ((Int.tmod (wrap64 ((wrap64 ((Int.tmod a1_0 (wrap64 ((t105.size : Int) + 1))) + (t105.size : Int))) + 1)) (wrap64 ((t105.size : Int) + 1))) + 1)) : Int).toNat t105.size).size ≤ 9223372036854775807 then (drachmlaw16_EditOne.j0 k t104 t105 ((t105.extract 0 ((Int.tmod (wrap64 ((wrap64 ((Int.tmod a1_0 (wrap64 ((t105.size : Int) + 1))) + (t105.size : Int))) + 1)) (wrap64 ((t105.size : Int) + 1))) : Int).toNat) ++ (t105.extract ((wrap64 ((Int.tmod (wrap64 ((wrap64 ((Int.tmod a1_0 (wrap64 ((t105.size : Int) + 1))) + (t105.size : Int))) + 1)) (wrap64 ((t105.size : Int) + 1))) + 1)) : Int).toNat t105.size)) a0_0 a0_1) else (none)) else (none)) else (none)) else (none)) else (none)) else (drachmlaw16_EditOne.j0 k t104 t105 t105 a0_0 a0_1)) else (if (Int.tmod (wrap64 ((Int.tmod a1_1 3) + 3)) 3) = 1 then (if 0 ≤ (Int.tmod (wrap64 ((wrap64 ((Int.tmod a1_0 (wrap64 ((t105.size : Int) + 1))) + (t105.size : Int))) + 1)) (wrap64 ((t105.size : Int) + 1))) then (if (Int.tmod (wrap64 ((wrap64 ((Int.tmod a1_0 (wrap64 ((t105.size : Int) + 1))) + (t105.size : Int))) + 1)) (wrap64 ((t105.size : Int) + 1))) ≤ (t105.size : Int) then ((some (([a2] : List Int) : List Int)).bind fun y106 => (if (t105.extract 0 ((Int.tmod (wrap64 ((wrap64 ((Int.tmod a1_0 (wrap64 ((t105.size : Int) + 1))) + (t105.size : Int))) + 1)) (wrap64 ((t105.size : Int) + 1))) : Int).toNat).size + (strOfNums y106).size ≤ 9223372036854775807 then (if ((t105.extract 0 ((Int.tmod (wrap64 ((wrap64 ((Int.tmod a1_0 (wrap64 ((t105.size : Int) + 1))) + (t105.size : Int))) + 1)) (wrap64 ((t105.size : Int) + 1))) : Int).toNat) ++ (strOfNums y106)).size + (t105.extract ((Int.tmod (wrap64 ((wrap64 ((Int.tmod a1_0 (wrap64 ((t105.size : Int) + 1))) + (t105.size : Int))) + 1)) (wrap64 ((t105.size : Int) + 1))) : Int).toNat t105.size).size ≤ 9223372036854775807 then (drachmlaw16_EditOne.j0 k t104 t105 (((t105.extract 0 ((Int.tmod (wrap64 ((wrap64 ((Int.tmod a1_0 (wrap64 ((t105.size : Int) + 1))) + (t105.size : Int))) + 1)) (wrap64 ((t105.size : Int) + 1))) : Int).toNat) ++ (strOfNums y106)) ++ (t105.extract ((Int.tmod (wrap64 ((wrap64 ((Int.tmod a1_0 (wrap64 ((t105.size : Int) + 1))) + (t105.size : Int))) + 1)) (wrap64 ((t105.size : Int) + 1))) : Int).toNat t105.size)) a0_0 a0_1) else (none)) else (none))) else (none)) else (none)) else (if (Int.tmod (wrap64 ((wrap64 ((Int.tmod a1_0 (wrap64 ((t105.size : Int) + 1))) + (t105.size : Int))) + 1)) (wrap64 ((t105.size : Int) + 1))) < (t105.size : Int) then (if 0 ≤ (Int.tmod (wrap64 ((wrap64 ((Int.tmod a1_0 (wrap64 ((t105.size : Int) + 1))) + (t105.size : Int))) + 1)) (wrap64 ((t105.size : Int) + 1))) then (if (Int.tmod (wrap64 ((wrap64 ((Int.tmod a1_0 (wrap64 ((t105.size : Int) + 1))) + (t105.size : Int))) + 1)) (wrap64 ((t105.size : Int) + 1))) ≤ (t105.size : Int) then ((some (([a2] : List Int) : List Int)).bind fun y109 => (if (t105.extract 0 ((Int.tmod (wrap64 ((wrap64 ((Int.tmod a1_0 (wrap64 ((t105.size : Int) + 1))) + (t105.size : Int))) + 1)) (wrap64 ((t105.size : Int) + 1))) : Int).toNat).size + (strOfNums y109).size ≤ 9223372036854775807 then (if 0 ≤ (wrap64 ((Int.tmod (wrap64 ((wrap64 ((Int.tmod a1_0 (wrap64 ((t105.size : Int) + 1))) + (t105.size : Int))) + 1)) (wrap64 ((t105.size : Int) + 1))) + 1)) then (if (wrap64 ((Int.tmod (wrap64 ((wrap64 ((Int.tmod a1_0 (wrap64 ((t105.size : Int) + 1))) + (t105.size : Int))) + 1)) (wrap64 ((t105.size : Int) + 1))) + 1)) ≤ (t105.size : Int) then (if ((t105.extract 0 ((Int.tmod (wrap64 ((wrap64 ((Int.tmod a1_0 (wrap64 ((t105.size : Int) + 1))) + (t105.size : Int))) + 1)) (wrap64 ((t105.size : Int) + 1))) : Int).toNat) ++ (strOfNums y109)).size + (t105.extract ((wrap64 ((Int.tmod (wrap64 ((wrap64 ((Int.tmod a1_0 (wrap64 ((t105.size : Int) + 1))) + (t105.size : Int))) + 1)) (wrap64 ((t105.size : Int) + 1))) + 1)) : Int).toNat t105.size).size ≤ 9223372036854775807 then (drachmlaw16_EditOne.j0 k t104 t105 (((t105.extract 0 ((Int.tmod (wrap64 ((wrap64 ((Int.tmod a1_0 (wrap64 ((t105.size : Int) + 1))) + (t105.size : Int))) + 1)) (wrap64 ((t105.size : Int) + 1))) : Int).toNat) ++ (strOfNums y109)) ++ (t105.extract ((wrap64 ((Int.tmod (wrap64 ((wrap64 ((Int.tmod a1_0 (wrap64 ((t105.size : Int) + 1))) + (t105.size : Int))) + 1)) (wrap64 ((t105.size : Int) + 1))) + 1)) : Int).toNat t105.size)) a0_0 a0_1) else (none)) else (none)) else (none)) else (none))) else (none)) else (none)) else (drachmlaw16_EditOne.j0 k t104 t105 t105 a0_0 a0_1))))) = some r := H
  have A5 := Aside0.mk A50
  clear A50
  by_cases c6 : (wrap64 ((t105.size : Int) + 1)) = 0
  · rw [if_pos c6] at H
    exact absurd H (by simp)
  · rw [if_neg c6] at H
    have c6b0 : ((wrap64 ((t105.size : Int) + 1)) == 0) = false := beq_eq_false_iff_ne.mpr c6
    have c6b1 : ((wrap64 ((t105.size : Int) + 1)) != 0) = true := bne_iff_ne.mpr c6
    have HC7 := Aside0.mk H
    clear H
    go_enter Try.func5, Try.ntmps5
    go_upto_block 0 with (first | ((with_reducible refine gate_dst (N := 3) rfl ?_); refine box_event ?hg (N := 3) ?hd (cs := #[.string a0_0, .string a0_1]) (t := 30) ?hr ?_; (case hd => rfl); (case hg => rfl); (case hr => first | (go_simp; done) | (go_simp; rfl)); intro gb102 hg w8 hbox hb; have n0_ := Aside0.mk (below_step (by repeat (first | (with_reducible first | exact HB.out | apply below_alloc | apply pw_below_drewN | apply below_drew1) | exact HB.out)) hb); have n1_ := Aside0.mk (hbox); have n2_ := Aside0.mk ((by rw [hg]; exact (below_size (by repeat (first | (with_reducible first | exact HB.out | apply below_alloc | apply pw_below_drewN | apply below_drew1) | exact HB.out))) : w.heap.size ≤ gb102)); have n3_ := Aside0.mk ((by rw [hg]; exact (below_size (by repeat (first | (with_reducible first | exact HB.out | apply below_alloc | apply pw_below_drewN | apply below_drew1) | exact HB.out))) : w.heap.size ≤ gb102)); clear HB; have HB := n0_; have BK102 := n1_; have GW102 := n2_; have GE102 := n3_; clear n0_ n1_ n2_ n3_; clear hb hbox hg) | ((with_reducible refine gate_dst (N := 4) rfl ?_); refine box_event ?hg (N := 4) ?hd (cs := #[.int .i64 a1_0, .int .i64 a1_1]) (t := 31) ?hr ?_; (case hd => rfl); (case hg => rfl); (case hr => first | (go_simp; done) | (go_simp; rfl)); intro gb103 hg w9 hbox hb; have n0_ := Aside0.mk (blk_below (g := gb102) (o := .cells #[.string a0_0, .string a0_1] 30 (0, 0)) (by (with_reducible repeat (first | refine blk_drewN ?_ _ | refine blk_drew ?_ | refine blk_alloc ?_ _)); exact BK102.out) hb); have n1_ := Aside0.mk (below_step (by repeat (first | (with_reducible first | exact HB.out | apply below_alloc | apply pw_below_drewN | apply below_drew1 | refine below_set ?_ GE102.out) | exact HB.out)) hb); have n2_ := Aside0.mk (hbox); have n3_ := Aside0.mk ((by rw [hg]; exact (below_size (by repeat (first | (with_reducible first | exact HB.out | apply below_alloc | apply pw_below_drewN | apply below_drew1 | refine below_set ?_ GE102.out) | exact HB.out))) : w.heap.size ≤ gb103)); have n4_ := Aside0.mk ((by rw [hg]; exact (below_size (by repeat (first | (with_reducible first | exact HB.out | apply below_alloc | apply pw_below_drewN | apply below_drew1 | refine below_set ?_ GE102.out) | exact HB.out))) : w.heap.size ≤ gb103)); have n5_ := Aside0.mk ((by rw [hg]; exact Nat.ne_of_lt (blk_lt (g := gb102) (o := .cells #[.string a0_0, .string a0_1] 30 (0, 0)) (by (with_reducible repeat (first | refine blk_drewN ?_ _ | refine blk_drew ?_ | refine blk_alloc ?_ _)); exact BK102.out)) : gb102 ≠ gb103)); have n6_ := Aside0.mk ((by rw [hg]; exact Nat.ne_of_gt (blk_lt (g := gb102) (o := .cells #[.string a0_0, .string a0_1] 30 (0, 0)) (by (with_reducible repeat (first | refine blk_drewN ?_ _ | refine blk_drew ?_ | refine blk_alloc ?_ _)); exact BK102.out)) : gb103 ≠ gb102)); clear BK102; clear HB; have BK102 := n0_; have HB := n1_; have BK103 := n2_; have GW103 := n3_; have GE103 := n4_; have NB102_103 := n5_; have NB103_102 := n6_; clear n0_ n1_ n2_ n3_ n4_ n5_ n6_; clear hb hbox hg) | ((with_reducible refine gate_callee (f := 9) rfl ?_); refine goesL_ (some 13) rfl rfl Try.func9 (by kernel_rfl) rfl #[] rfl (by (try simp only [List.map_toArray, List.map_cons, List.map_nil]); first | done | rfl | (simp only [List.length_drop, List.length_take]; rfl)) ?_; (with_reducible refine (drachmlaw16_awake.calls  t104 _ A4.out).mono ?_); rintro e w10 ⟨rfl, hb⟩; refine ⟨_, rfl, ?_⟩; have n0_ := Aside0.mk (blk_below (g := gb102) (o := .cells #[.string a0_0, .string a0_1] 30 (0, 0)) (by (with_reducible repeat (first | refine blk_drewN ?_ _ | refine blk_drew ?_ | refine blk_alloc ?_ _)); exact BK102.out) hb); have n1_ := Aside0.mk (blk_below (g := gb103) (o := .cells #[.int .i64 a1_0, .int .i64 a1_1] 31 (0, 0)) (by (with_reducible repeat (first | refine blk_drewN ?_ _ | refine blk_drew ?_ | refine blk_alloc ?_ _)); exact BK103.out) hb); have n2_ := Aside0.mk (below_step (by repeat (first | (with_reducible first | exact HB.out | apply below_alloc | apply pw_below_drewN | apply below_drew1 | refine below_set ?_ GE102.out | refine below_set ?_ GE103.out) | exact HB.out)) hb); clear BK102; clear BK103; clear HB; have BK102 := n0_; have BK103 := n1_; have HB := n2_; clear n0_ n1_ n2_; (try clear hb); (try clear hb2); (try clear hk); (try clear hi); have hnb11 := NB102_103.out; have hnc11 := NB103_102.out; have hcz12_0 : w10.cell? ⟨gb102, 0, none⟩ = some (.string a0_0) := (blk_cell BK102.out 0).trans rfl; have hcz12_1 : w10.cell? ⟨gb102, 1, none⟩ = some (.string a0_1) := (blk_cell BK102.out 1).trans rfl; have hfz12_0 := blk_frozen BK102.out 0; have hfz12_1 := blk_frozen BK102.out 1) | ((with_reducible refine gate_callee (f := 10) rfl ?_); refine goesL_ (some 16) rfl rfl Try.func10 (by kernel_rfl) rfl #[.string a0_0] rfl (by (try simp only [List.map_toArray, List.map_cons, List.map_nil]); first | done | rfl | (simp only [List.length_drop, List.length_take]; rfl)) ?_; (with_reducible refine (drachmlaw16_short.calls a0_0 t105 _ A5.out).mono ?_); rintro e w' ⟨rfl, ⟨nd, rfl⟩⟩; refine ⟨_, rfl, ?_⟩; have hcz13_0 : w10.cell? ⟨gb103, 0, none⟩ = some (.int .i64 a1_0) := (blk_cell BK103.out 0).trans rfl; have hcz13_1 : w10.cell? ⟨gb103, 1, none⟩ = some (.int .i64 a1_1) := (blk_cell BK103.out 1).trans rfl; have hfz13_0 := blk_frozen BK103.out 0; have hfz13_1 := blk_frozen BK103.out 1))
    (try simp only [Act.put, List.setIfInBounds_toArray, List.set_cons_zero, List.set_cons_succ])
    go_cut [10] (fun v10 wc => ∃ (kq : Nat) (x10_6 : ByteArray), v10 = .string x10_6 ∧ Aside0 (drachmlaw16_EditOne.j0 kq t104 t105 x10_6 a0_0 a0_1 = some r) ∧ Aside0 (kq ≤ k) ∧ Aside0 (wc.heap[gb102]? = some (.cells #[.string a0_0, .string a0_1] 30 (0, 0))) ∧ Aside0 (wc.heap[gb103]? = some (.cells #[.int .i64 a1_0, .int .i64 a1_1] 31 (0, 0))) ∧ Aside0 (Below w.heap.size w wc))
    case first =>
      have H := HC7.out
      clear HC7
      by_cases c14 : (Int.tmod (wrap64 ((Int.tmod a1_1 3) + 3)) 3) = 0
      · rw [if_pos c14] at H
        have c14b0 : ((Int.tmod (wrap64 ((Int.tmod a1_1 3) + 3)) 3) == 0) = true := beq_iff_eq.mpr c14
        have c14b1 : ((Int.tmod (wrap64 ((Int.tmod a1_1 3) + 3)) 3) != 0) = false := bne_eq_false_iff_eq.mpr c14
        clear c14
        (first | rw [c14b0] | (simp only [i64_w, i32_w]; rw [c14b0]) | skip)
        by_cases c15 : (Int.tmod (wrap64 ((wrap64 ((Int.tmod a1_0 (wrap64 ((t105.size : Int) + 1))) + (t105.size : Int))) + 1)) (wrap64 ((t105.size : Int) + 1))) < (t105.size : Int)
        · rw [if_pos c15] at H
          have c15b0 : decide ((Int.tmod (wrap64 ((wrap64 ((Int.tmod a1_0 (wrap64 ((t105.size : Int) + 1))) + (t105.size : Int))) + 1)) (wrap64 ((t105.size : Int) + 1))) < (t105.size : Int)) = true := decide_eq_true c15
          clear c15
          obtain ⟨ji16, hji16⟩ : ∃ j_ : Int, (Int.tmod (wrap64 ((wrap64 ((Int.tmod a1_0 (wrap64 ((t105.size : Int) + 1))) + (t105.size : Int))) + 1)) (wrap64 ((t105.size : Int) + 1))) = j_ := ⟨_, rfl⟩
          replace H : (if 0 ≤ (ji16) then (if (ji16) ≤ (t105.size : Int) then (if 0 ≤ (wrap64 ((ji16) + 1)) then (if (wrap64 ((ji16) + 1)) ≤ (t105.size : Int) then (if (t105.extract 0 ((ji16) : Int).toNat).size + (t105.extract ((wrap64 ((ji16) + 1)) : Int).toNat t105.size).size ≤ 9223372036854775807 then (drachmlaw16_EditOne.j0 k t104 t105 ((t105.extract 0 ((ji16) : Int).toNat) ++ (t105.extract ((wrap64 ((ji16) + 1)) : Int).toNat t105.size)) a0_0 a0_1) else (none)) else (none)) else (none)) else (none)) else (none)) = some r := by first | (rw [hji16] at H; exact H) | (simp only [hji16] at H ⊢; exact H)
          (try rw [hji16] at c15b0)
          by_cases c17 : 0 ≤ (ji16)
          · rw [if_pos c17] at H
            have c17b0 := eq_true c17
            have c17b1 : decide (0 ≤ (ji16)) = true := decide_eq_true c17
            clear c17
            by_cases c18 : (ji16) ≤ (t105.size : Int)
            · rw [if_pos c18] at H
              have c18b0 := eq_true c18
              have c18b1 : decide ((ji16) ≤ (t105.size : Int)) = true := decide_eq_true c18
              clear c18
              obtain ⟨ji19, hji19⟩ : ∃ j_ : Int, (wrap64 ((ji16) + 1)) = j_ := ⟨_, rfl⟩
              replace H : (if 0 ≤ (ji19) then (if (ji19) ≤ (t105.size : Int) then (if (t105.extract 0 ((ji16) : Int).toNat).size + (t105.extract ((ji19) : Int).toNat t105.size).size ≤ 9223372036854775807 then (drachmlaw16_EditOne.j0 k t104 t105 ((t105.extract 0 ((ji16) : Int).toNat) ++ (t105.extract ((ji19) : Int).toNat t105.size)) a0_0 a0_1) else (none)) else (none)) else (none)) = some r := by first | (rw [hji19] at H; exact H) | (simp only [hji19] at H ⊢; exact H)
              have hji19w : (IntKind.i64.wrap ((ji16) + 1)) = ji19 := (i64_w _).trans hji19
              by_cases c20 : 0 ≤ (ji19)
              · rw [if_pos c20] at H
                have c20b0 := eq_true c20
                have c20b1 : decide (0 ≤ (ji19)) = true := decide_eq_true c20
                clear c20
                by_cases c21 : (ji19) ≤ (t105.size : Int)
                · rw [if_pos c21] at H
                  have c21b0 := eq_true c21
                  have c21b1 : decide ((ji19) ≤ (t105.size : Int)) = true := decide_eq_true c21
                  clear c21
                  by_cases c22 : (t105.extract 0 ((ji16) : Int).toNat).size + (t105.extract ((ji19) : Int).toNat t105.size).size ≤ 9223372036854775807
                  · rw [if_pos c22] at H
                    have c22b0 := eq_true c22
                    have c22b1 : decide ((t105.extract 0 ((ji16) : Int).toNat).size + (t105.extract ((ji19) : Int).toNat t105.size).size ≤ 9223372036854775807) = true := decide_eq_true c22
                    try have c22b2 : (9223372036854775807 < (t105.extract 0 ((ji16) : Int).toNat).size + (t105.extract ((ji19) : Int).toNat t105.size).size) = False := eq_false (Nat.not_lt.2 c22)
                    have H' := Aside0.mk H
                    clear H
                    try go_wp2
                    (try (rw [drewN_self w10]; generalize hq_ : World.drewN w10 _ = w10; have n0_ : Aside0 (w10.heap[gb102]? = some (.cells #[.string a0_0, .string a0_1] 30 (0, 0))) := ⟨by rw [← hq_]; exact (by (with_reducible repeat (first | refine blk_drewN ?_ _ | refine blk_drew ?_ | refine blk_alloc ?_ _)); exact BK102.out)⟩; have n1_ : Aside0 (w10.heap[gb103]? = some (.cells #[.int .i64 a1_0, .int .i64 a1_1] 31 (0, 0))) := ⟨by rw [← hq_]; exact (by (with_reducible repeat (first | refine blk_drewN ?_ _ | refine blk_drew ?_ | refine blk_alloc ?_ _)); exact BK103.out)⟩; have n2_ : Aside0 (Below w.heap.size w w10) := ⟨by rw [← hq_]; exact (by repeat (first | (with_reducible first | exact HB.out | apply below_alloc | apply pw_below_drewN | apply below_drew1 | refine below_set ?_ GE102.out | refine below_set ?_ GE103.out) | exact HB.out))⟩; clear BK102 BK103 HB hq_; have BK102 := n0_; have BK103 := n1_; have HB := n2_; clear n0_ n1_ n2_))
                    have n0_ := Aside0.mk (blk_drew BK102.out)
                    have n1_ := Aside0.mk (blk_drew BK103.out)
                    have n2_ := Aside0.mk (below_drew1 HB.out)
                    clear BK102
                    clear BK103
                    clear HB
                    have BK102 := n0_
                    have BK103 := n1_
                    have HB := n2_
                    clear n0_ n1_ n2_
                    refine start_ (n := 9) (S := fun w' => True) (ds := []) #[false, false, false, false, false, false, false, false, false] (by kernel_rfl) rfl rfl trivial (fun hHeld => ?_); refine with_tabW drachmlaw16_EditOne.tab10 drachmlaw16_EditOne.bits10 (fun HT_ HW_ => ?_)
                    generalize w10.drew = w23 at BK102 BK103 HB hHeld ⊢
                    refine pure_ (i := 0) (N := some 59) (v := ?_) (a' := ?_) #[true, false, false, false, false, false, false, false, false] rfl rfl (any_of HT_.out (by kernel_rfl)) (fun _ _ _ h => h) (Or.inl ⟨by rfl, ?_⟩) ?_ ?_
                    rotate_left
                    · intro w'
                      go_simp
                      first | with_reducible rfl | (rw [if_neg (by simp only [ByteArray.size_extract, ByteArray.size_append, eq_iff_iff, iff_true, iff_false] at *; omega)])
                    rotate_left
                    · simp only [Act.put, List.setIfInBounds_toArray, List.set_cons_zero, List.set_cons_succ, i64_w, i32_w]
                      rfl
                    refine pure_ (i := 1) (N := some 60) (v := ?_) (a' := ?_) #[true, true, false, false, false, false, false, false, false] rfl rfl (any_of HT_.out (by kernel_rfl)) (fun _ _ _ h => h) (Or.inl ⟨by rfl, ?_⟩) ?_ ?_
                    rotate_left
                    · intro w'
                      go_simp
                      first | with_reducible rfl | (rw [if_neg (by simp only [ByteArray.size_extract, ByteArray.size_append, eq_iff_iff, iff_true, iff_false] at *; omega)])
                    rotate_left
                    · simp only [Act.put, List.setIfInBounds_toArray, List.set_cons_zero, List.set_cons_succ, i64_w, i32_w]
                      rfl
                    refine pure_ (i := 2) (N := some 61) (v := ?_) (a' := ?_) #[true, true, true, false, false, false, false, false, false] rfl rfl (any_of HT_.out (by kernel_rfl)) (fun _ _ _ h => h) (Or.inl ⟨by rfl, ?_⟩) ?_ ?_
                    rotate_left
                    · intro w'
                      go_simp
                      first | with_reducible rfl | (rw [if_neg (by simp only [ByteArray.size_extract, ByteArray.size_append, eq_iff_iff, iff_true, iff_false] at *; omega)])
                    rotate_left
                    · simp only [Act.put, List.setIfInBounds_toArray, List.set_cons_zero, List.set_cons_succ, i64_w, i32_w]
                      rfl
                    refine pure_ (i := 3) (N := some 62) (v := ?_) (a' := ?_) #[true, true, true, true, false, false, false, false, false] rfl rfl (any_of HT_.out (by kernel_rfl)) (fun _ _ _ h => h) (Or.inl ⟨by rfl, ?_⟩) ?_ ?_
                    rotate_left
                    · intro w'
                      go_simp
                      first | with_reducible rfl | (rw [if_neg (by simp only [ByteArray.size_extract, ByteArray.size_append, eq_iff_iff, iff_true, iff_false] at *; omega)])
                    rotate_left
                    · simp only [Act.put, List.setIfInBounds_toArray, List.set_cons_zero, List.set_cons_succ, i64_w, i32_w]
                      rfl
                    refine pure_ (i := 4) (N := some 63) (v := ?_) (a' := ?_) #[true, true, true, true, true, false, false, false, false] rfl rfl (any_of HT_.out (by kernel_rfl)) (fun _ _ _ h => h) (Or.inl ⟨by rfl, ?_⟩) ?_ ?_
                    rotate_left
                    · intro w'
                      go_simp
                      first | with_reducible rfl | (rw [if_neg (by simp only [ByteArray.size_extract, ByteArray.size_append, eq_iff_iff, iff_true, iff_false] at *; omega)])
                    rotate_left
                    · simp only [Act.put, List.setIfInBounds_toArray, List.set_cons_zero, List.set_cons_succ, i64_w, i32_w]
                      rfl
                    refine pure_ (i := 5) (N := some 64) (v := ?_) (a' := ?_) #[true, true, true, true, true, true, false, false, false] rfl rfl (any_of HT_.out (by kernel_rfl)) (fun _ _ _ h => h) (Or.inl ⟨by rfl, ?_⟩) ?_ ?_
                    rotate_left
                    · intro w'
                      go_simp
                      first | with_reducible rfl | (rw [if_neg (by simp only [ByteArray.size_extract, ByteArray.size_append, eq_iff_iff, iff_true, iff_false] at *; omega)])
                    rotate_left
                    · simp only [Act.put, List.setIfInBounds_toArray, List.set_cons_zero, List.set_cons_succ, i64_w, i32_w]
                      rfl
                    refine pure_ (i := 6) (N := some 65) (v := ?_) (a' := ?_) #[true, true, true, true, true, true, true, false, false] rfl rfl (any_of HT_.out (by kernel_rfl)) (fun _ _ _ h => h) (Or.inl ⟨by rfl, ?_⟩) ?_ ?_
                    rotate_left
                    · intro w'
                      go_simp
                      first | with_reducible rfl | (rw [if_neg (by simp only [ByteArray.size_extract, ByteArray.size_append, eq_iff_iff, iff_true, iff_false] at *; omega)])
                    rotate_left
                    · simp only [Act.put, List.setIfInBounds_toArray, List.set_cons_zero, List.set_cons_succ, i64_w, i32_w]
                      rfl
                    refine pure_ (i := 7) (N := some 66) (v := ?_) (a' := ?_) #[true, true, true, true, true, true, true, true, false] rfl rfl (any_of HT_.out (by kernel_rfl)) (fun _ _ _ h => h) (Or.inl ⟨by rfl, ?_⟩) ?_ ?_
                    rotate_left
                    · intro w'
                      go_simp
                      first | with_reducible rfl | (rw [if_neg (by simp only [ByteArray.size_extract, ByteArray.size_append, eq_iff_iff, iff_true, iff_false] at *; omega)])
                    rotate_left
                    · simp only [Act.put, List.setIfInBounds_toArray, List.set_cons_zero, List.set_cons_succ, i64_w, i32_w]
                      rfl
                    refine pure_ (i := 8) (N := some 10) (v := ?_) (a' := ?_) #[true, true, true, true, true, true, true, true, true] rfl rfl (any_of HT_.out (by kernel_rfl)) (fun _ _ _ h => h) (Or.inl ⟨by rfl, ?_⟩) ?_ ?_
                    rotate_left
                    · intro w'
                      go_simp
                      first | with_reducible rfl | (rw [if_neg (by simp only [ByteArray.size_extract, ByteArray.size_append, eq_iff_iff, iff_true, iff_false] at *; omega)])
                    rotate_left
                    · simp only [Act.put, List.setIfInBounds_toArray, List.set_cons_zero, List.set_cons_succ, i64_w, i32_w]
                      rfl
                    refine done_ (done_of HT_.out (by kernel_rfl)) ?_
                    try go_wp2
                    go_meet
                    case rel => exact ⟨_, ((t105.extract 0 ((ji16) : Int).toNat) ++ (t105.extract ((ji19) : Int).toNat t105.size)), (by first | rfl | (simp; done) | (simp only [← hji16, ← hji19] <;> (first | rfl | simp)) | (simp [*]; done)), H', ⟨by first | omega | exact Nat.le_refl _⟩, ⟨by (with_reducible repeat (first | refine blk_drewN ?_ _ | refine blk_drew ?_ | refine blk_alloc ?_ _)); exact BK102.out⟩, ⟨by (with_reducible repeat (first | refine blk_drewN ?_ _ | refine blk_drew ?_ | refine blk_alloc ?_ _)); exact BK103.out⟩, ⟨by repeat (first | (with_reducible first | exact HB.out | apply below_alloc | apply pw_below_drewN | apply below_drew1 | refine below_set ?_ GE102.out | refine below_set ?_ GE103.out) | exact HB.out)⟩⟩
                  · rw [if_neg c22] at H
                    exact absurd H (by simp)
                · rw [if_neg c21] at H
                  exact absurd H (by simp)
              · rw [if_neg c20] at H
                exact absurd H (by simp)
            · rw [if_neg c18] at H
              exact absurd H (by simp)
          · rw [if_neg c17] at H
            exact absurd H (by simp)
        · rw [if_neg c15] at H
          have c15b0 : decide ((Int.tmod (wrap64 ((wrap64 ((Int.tmod a1_0 (wrap64 ((t105.size : Int) + 1))) + (t105.size : Int))) + 1)) (wrap64 ((t105.size : Int) + 1))) < (t105.size : Int)) = false := decide_eq_false c15
          clear c15
          have H' := Aside0.mk H
          clear H
          go_wp2
          go_meet
          case rel => exact ⟨_, (t105), (by first | rfl | (simp; done) | (simp [*]; done)), H', ⟨by first | omega | exact Nat.le_refl _⟩, ⟨by (with_reducible repeat (first | refine blk_drewN ?_ _ | refine blk_drew ?_ | refine blk_alloc ?_ _)); exact BK102.out⟩, ⟨by (with_reducible repeat (first | refine blk_drewN ?_ _ | refine blk_drew ?_ | refine blk_alloc ?_ _)); exact BK103.out⟩, ⟨by repeat (first | (with_reducible first | exact HB.out | apply below_alloc | apply pw_below_drewN | apply below_drew1 | refine below_set ?_ GE102.out | refine below_set ?_ GE103.out) | exact HB.out)⟩⟩
      · rw [if_neg c14] at H
        have c14b0 : ((Int.tmod (wrap64 ((Int.tmod a1_1 3) + 3)) 3) == 0) = false := beq_eq_false_iff_ne.mpr c14
        have c14b1 : ((Int.tmod (wrap64 ((Int.tmod a1_1 3) + 3)) 3) != 0) = true := bne_iff_ne.mpr c14
        (first | rw [c14b0] | (simp only [i64_w, i32_w]; rw [c14b0]) | skip)
        by_cases c24 : (Int.tmod (wrap64 ((Int.tmod a1_1 3) + 3)) 3) = 1
        · rw [if_pos c24] at H
          have c24b0 : ((Int.tmod (wrap64 ((Int.tmod a1_1 3) + 3)) 3) == 1) = true := beq_iff_eq.mpr c24
          have c24b1 : ((Int.tmod (wrap64 ((Int.tmod a1_1 3) + 3)) 3) != 1) = false := bne_eq_false_iff_eq.mpr c24
          clear c24
          obtain ⟨ji25, hji25⟩ : ∃ j_ : Int, (Int.tmod (wrap64 ((wrap64 ((Int.tmod a1_0 (wrap64 ((t105.size : Int) + 1))) + (t105.size : Int))) + 1)) (wrap64 ((t105.size : Int) + 1))) = j_ := ⟨_, rfl⟩
          replace H : (if 0 ≤ (ji25) then (if (ji25) ≤ (t105.size : Int) then ((some (([a2] : List Int) : List Int)).bind fun y106 => (if (t105.extract 0 ((ji25) : Int).toNat).size + (strOfNums y106).size ≤ 9223372036854775807 then (if ((t105.extract 0 ((ji25) : Int).toNat) ++ (strOfNums y106)).size + (t105.extract ((ji25) : Int).toNat t105.size).size ≤ 9223372036854775807 then (drachmlaw16_EditOne.j0 k t104 t105 (((t105.extract 0 ((ji25) : Int).toNat) ++ (strOfNums y106)) ++ (t105.extract ((ji25) : Int).toNat t105.size)) a0_0 a0_1) else (none)) else (none))) else (none)) else (none)) = some r := by first | (rw [hji25] at H; exact H) | (simp only [hji25] at H ⊢; exact H)
          by_cases c26 : 0 ≤ (ji25)
          · rw [if_pos c26] at H
            have c26b0 := eq_true c26
            have c26b1 : decide (0 ≤ (ji25)) = true := decide_eq_true c26
            clear c26
            by_cases c27 : (ji25) ≤ (t105.size : Int)
            · rw [if_pos c27] at H
              have c27b0 := eq_true c27
              have c27b1 : decide ((ji25) ≤ (t105.size : Int)) = true := decide_eq_true c27
              clear c27
              obtain ⟨y106, hy106⟩ : ∃ y_ : List Int, y_ = (([a2] : List Int)) := ⟨_, rfl⟩
              replace H : (if (t105.extract 0 ((ji25) : Int).toNat).size + (strOfNums y106).size ≤ 9223372036854775807 then (if ((t105.extract 0 ((ji25) : Int).toNat) ++ (strOfNums y106)).size + (t105.extract ((ji25) : Int).toNat t105.size).size ≤ 9223372036854775807 then (drachmlaw16_EditOne.j0 k t104 t105 (((t105.extract 0 ((ji25) : Int).toNat) ++ (strOfNums y106)) ++ (t105.extract ((ji25) : Int).toNat t105.size)) a0_0 a0_1) else (none)) else (none)) = some r := by first | (rw [hy106]; with_reducible exact H) | (have H2_ := (Option.bind_some _ _).symm.trans H; rw [hy106]; with_reducible exact H2_) | (have H2_ := (Option.bind_some _ _).symm.trans H; with_reducible exact H2_) | with_reducible exact H | (rw [hy106]; exact H) | exact H
              have Ny106 := Aside0.mk hy106
              clear hy106
              by_cases c28 : (t105.extract 0 ((ji25) : Int).toNat).size + (strOfNums y106).size ≤ 9223372036854775807
              · rw [if_pos c28] at H
                have c28b0 := eq_true c28
                have c28b1 : decide ((t105.extract 0 ((ji25) : Int).toNat).size + (strOfNums y106).size ≤ 9223372036854775807) = true := decide_eq_true c28
                try have c28b2 : (9223372036854775807 < (t105.extract 0 ((ji25) : Int).toNat).size + (strOfNums y106).size) = False := eq_false (Nat.not_lt.2 c28)
                have c29b0 := eq_true (of_decide_eq_true (by first | (with_reducible assumption) | assumption) : 0 ≤ (ji25))
                have c30b0 := eq_true (of_decide_eq_true (by first | (with_reducible assumption) | assumption) : (ji25) ≤ (t105.size : Int))
                by_cases c31 : ((t105.extract 0 ((ji25) : Int).toNat) ++ (strOfNums y106)).size + (t105.extract ((ji25) : Int).toNat t105.size).size ≤ 9223372036854775807
                · rw [if_pos c31] at H
                  have c31b0 := eq_true c31
                  have c31b1 : decide (((t105.extract 0 ((ji25) : Int).toNat) ++ (strOfNums y106)).size + (t105.extract ((ji25) : Int).toNat t105.size).size ≤ 9223372036854775807) = true := decide_eq_true c31
                  try have c31b2 : (9223372036854775807 < ((t105.extract 0 ((ji25) : Int).toNat) ++ (strOfNums y106)).size + (t105.extract ((ji25) : Int).toNat t105.size).size) = False := eq_false (Nat.not_lt.2 c31)
                  have H' := Aside0.mk H
                  clear H
                  try go_wp2
                  (try (rw [drewN_self w10]; generalize hq_ : World.drewN w10 _ = w10; have n0_ : Aside0 (w10.heap[gb102]? = some (.cells #[.string a0_0, .string a0_1] 30 (0, 0))) := ⟨by rw [← hq_]; exact (by (with_reducible repeat (first | refine blk_drewN ?_ _ | refine blk_drew ?_ | refine blk_alloc ?_ _)); exact BK102.out)⟩; have n1_ : Aside0 (w10.heap[gb103]? = some (.cells #[.int .i64 a1_0, .int .i64 a1_1] 31 (0, 0))) := ⟨by rw [← hq_]; exact (by (with_reducible repeat (first | refine blk_drewN ?_ _ | refine blk_drew ?_ | refine blk_alloc ?_ _)); exact BK103.out)⟩; have n2_ : Aside0 (Below w.heap.size w w10) := ⟨by rw [← hq_]; exact (by repeat (first | (with_reducible first | exact HB.out | apply below_alloc | apply pw_below_drewN | apply below_drew1 | refine below_set ?_ GE102.out | refine below_set ?_ GE103.out) | exact HB.out))⟩; clear BK102 BK103 HB hq_; have BK102 := n0_; have BK103 := n1_; have HB := n2_; clear n0_ n1_ n2_))
                  have n0_ := Aside0.mk (blk_drew BK102.out)
                  have n1_ := Aside0.mk (blk_drew BK103.out)
                  have n2_ := Aside0.mk (below_drew1 HB.out)
                  clear BK102
                  clear BK103
                  clear HB
                  have BK102 := n0_
                  have BK103 := n1_
                  have HB := n2_
                  clear n0_ n1_ n2_
                  refine start_ (n := 12) (S := fun w' => True) (ds := []) #[false, false, false, false, false, false, false, false, false, false, false, false] (by kernel_rfl) rfl rfl trivial (fun hHeld => ?_); refine with_tabW drachmlaw16_EditOne.tab12 drachmlaw16_EditOne.bits12 (fun HT_ HW_ => ?_)
                  generalize w10.drew = w32 at BK102 BK103 HB hHeld ⊢
                  refine pure_ (i := 0) (N := some 69) (v := ?_) (a' := ?_) #[true, false, false, false, false, false, false, false, false, false, false, false] rfl rfl (any_of HT_.out (by kernel_rfl)) (fun _ _ _ h => h) (Or.inl ⟨by rfl, ?_⟩) ?_ ?_
                  rotate_left
                  · intro w'
                    go_simp
                    first | with_reducible rfl | (rw [if_neg (by simp only [ByteArray.size_extract, ByteArray.size_append, eq_iff_iff, iff_true, iff_false] at *; omega)])
                  rotate_left
                  · simp only [Act.put, List.setIfInBounds_toArray, List.set_cons_zero, List.set_cons_succ, i64_w, i32_w]
                    rfl
                  refine pure_ (i := 1) (N := some 70) (v := ?_) (a' := ?_) #[true, true, false, false, false, false, false, false, false, false, false, false] rfl rfl (any_of HT_.out (by kernel_rfl)) (fun _ _ _ h => h) (Or.inl ⟨by rfl, ?_⟩) ?_ ?_
                  rotate_left
                  · intro w'
                    go_simp
                    first | with_reducible rfl | (rw [if_neg (by simp only [ByteArray.size_extract, ByteArray.size_append, eq_iff_iff, iff_true, iff_false] at *; omega)])
                  rotate_left
                  · simp only [Act.put, List.setIfInBounds_toArray, List.set_cons_zero, List.set_cons_succ, i64_w, i32_w]
                    rfl
                  refine pure_ (i := 2) (N := some 71) (v := ?_) (a' := ?_) #[true, true, true, false, false, false, false, false, false, false, false, false] rfl rfl (any_of HT_.out (by kernel_rfl)) (fun _ _ _ h => h) (Or.inl ⟨by rfl, ?_⟩) ?_ ?_
                  rotate_left
                  · intro w'
                    go_simp
                    first | with_reducible rfl | (rw [if_neg (by simp only [ByteArray.size_extract, ByteArray.size_append, eq_iff_iff, iff_true, iff_false] at *; omega)])
                  rotate_left
                  · simp only [Act.put, List.setIfInBounds_toArray, List.set_cons_zero, List.set_cons_succ, i64_w, i32_w]
                    rfl
                  refine pure_ (i := 3) (N := some 72) (v := ?_) (a' := ?_) #[true, true, true, true, false, false, false, false, false, false, false, false] rfl rfl (any_of HT_.out (by kernel_rfl)) (fun _ _ _ h => h) (Or.inl ⟨by rfl, ?_⟩) ?_ ?_
                  rotate_left
                  · intro w'
                    go_simp
                    first | with_reducible rfl | (rw [if_neg (by simp only [ByteArray.size_extract, ByteArray.size_append, eq_iff_iff, iff_true, iff_false] at *; omega)])
                  rotate_left
                  · simp only [Act.put, List.setIfInBounds_toArray, List.set_cons_zero, List.set_cons_succ, i64_w, i32_w]
                    rfl
                  refine pure_ (i := 7) (N := some 76) (v := ?_) (a' := ?_) #[true, true, true, true, false, false, false, true, false, false, false, false] rfl rfl (any_of HT_.out (by kernel_rfl)) (fun _ _ _ h => h) (Or.inl ⟨by rfl, ?_⟩) ?_ ?_
                  rotate_left
                  · intro w'
                    go_simp
                    first | with_reducible rfl | (rw [if_neg (by simp only [ByteArray.size_extract, ByteArray.size_append, eq_iff_iff, iff_true, iff_false] at *; omega)])
                  rotate_left
                  · simp only [Act.put, List.setIfInBounds_toArray, List.set_cons_zero, List.set_cons_succ, i64_w, i32_w]
                    rfl
                  refine pure_ (i := 8) (N := some 77) (v := ?_) (a' := ?_) #[true, true, true, true, false, false, false, true, true, false, false, false] rfl rfl (any_of HT_.out (by kernel_rfl)) (fun _ _ _ h => h) (Or.inl ⟨by rfl, ?_⟩) ?_ ?_
                  rotate_left
                  · intro w'
                    go_simp
                    first | with_reducible rfl | (rw [if_neg (by simp only [ByteArray.size_extract, ByteArray.size_append, eq_iff_iff, iff_true, iff_false] at *; omega)])
                  rotate_left
                  · simp only [Act.put, List.setIfInBounds_toArray, List.set_cons_zero, List.set_cons_succ, i64_w, i32_w]
                    rfl
                  refine pure_ (i := 9) (N := some 78) (v := ?_) (a' := ?_) #[true, true, true, true, false, false, false, true, true, true, false, false] rfl rfl (any_of HT_.out (by kernel_rfl)) (fun _ _ _ h => h) (Or.inl ⟨by rfl, ?_⟩) ?_ ?_
                  rotate_left
                  · intro w'
                    go_simp
                    first | with_reducible rfl | (rw [if_neg (by simp only [ByteArray.size_extract, ByteArray.size_append, eq_iff_iff, iff_true, iff_false] at *; omega)])
                  rotate_left
                  · simp only [Act.put, List.setIfInBounds_toArray, List.set_cons_zero, List.set_cons_succ, i64_w, i32_w]
                    rfl
                  refine one_ (i := 4) (N := some 73) #[true, true, true, true, true, false, false, true, true, true, false, false] rfl rfl (one_of HT_.out (by kernel_rfl)) (by decide) (fun K hK => ?_)
                  refine Kd.R_lit_step (Kd.int .u8) _ 5 ?hg (N := 73) ?hd (xs := ([a2] : List Int)) (inner := [.int .u8 a2]) (ok := fun _ => True) (okp := fun _ => True) ?hr ?hp (fun _ hk => hk) trivial (Below.refl _ _) (Nat.le_refl _) (by simp) ?_; (case hd => rfl); (case hg => rfl); (case hr => first | (go_simp; done) | (go_simp; rfl)); (case hp => exact (Reps.one (show Kd.M (Kd.int .u8) _ _ _ a2 [.int .u8 a2] from rfl) (Reps.none _ _)))
                  intro v107 w33 ho34 hb hg_ hnew_
                  clear hg_ hnew_
                  (first | rw [← Ny106.out] at ho34 | (simp only [Int.reduceToNat] at ho34; rw [← Ny106.out] at ho34))
                  have n0_ := Aside0.mk (Kd.R_lower ho34 (below_size (by repeat (first | (with_reducible first | exact HB.out | apply below_alloc | apply pw_below_drewN | apply below_drew1 | refine below_set ?_ GE102.out | refine below_set ?_ GE103.out) | exact HB.out))))
                  have n1_ := Aside0.mk (blk_below (g := gb102) (o := .cells #[.string a0_0, .string a0_1] 30 (0, 0)) (by (with_reducible repeat (first | refine blk_drewN ?_ _ | refine blk_drew ?_ | refine blk_alloc ?_ _)); exact BK102.out) hb)
                  have n2_ := Aside0.mk (blk_below (g := gb103) (o := .cells #[.int .i64 a1_0, .int .i64 a1_1] 31 (0, 0)) (by (with_reducible repeat (first | refine blk_drewN ?_ _ | refine blk_drew ?_ | refine blk_alloc ?_ _)); exact BK103.out) hb)
                  have n3_ := Aside0.mk (below_step (by repeat (first | (with_reducible first | exact HB.out | apply below_alloc | apply pw_below_drewN | apply below_drew1 | refine below_set ?_ GE102.out | refine below_set ?_ GE103.out) | exact HB.out)) hb)
                  clear BK102
                  clear BK103
                  clear HB
                  have HO108 := n0_
                  have BK102 := n1_
                  have BK103 := n2_
                  have HB := n3_
                  clear n0_ n1_ n2_ n3_
                  clear hb ho34
                  refine hK.out _ _ trivial (fun hHeld => ?_)
                  clear hK K
                  refine norm_ (a' := ?_) ?_ ?_
                  rotate_left
                  · show Act.put _ (some 73) _ = _
                    simp only [Act.put, List.setIfInBounds_toArray, List.set_cons_zero, List.set_cons_succ, i64_w, i32_w]
                    rfl
                  refine one_ (i := 5) (N := some 74) #[true, true, true, true, true, true, false, true, true, true, false, false] rfl rfl (one_of HT_.out (by kernel_rfl)) (by decide) (fun K hK => ?_)
                  have hcv35 := own_string (P := Try.prog) Try.underlying32 Try.underlying5 Try.underlying9 (Kd.own_of_R HO108.out)
                  refine value_ (w1 := ?_) (v := ?_) (by rfl) rfl ?_ ?_
                  rotate_left 2
                  · go_simp
                    constructor
                    · rfl
                    · rfl
                  clear hcv35
                  refine hK.out _ _ trivial (fun hHeld => ?_)
                  clear hK K
                  refine norm_ (a' := ?_) ?_ ?_
                  rotate_left
                  · show Act.put _ (some 74) _ = _
                    simp only [Act.put, List.setIfInBounds_toArray, List.set_cons_zero, List.set_cons_succ, i64_w, i32_w]
                    rfl
                  refine pure_ (i := 6) (N := some 75) (v := ?_) (a' := ?_) #[true, true, true, true, true, true, true, true, true, true, false, false] rfl rfl (any_of HT_.out (by kernel_rfl)) (fun _ _ _ h => h) (Or.inl ⟨by rfl, ?_⟩) ?_ ?_
                  rotate_left
                  · intro w'
                    go_simp
                    first | with_reducible rfl | (rw [if_neg (by simp only [ByteArray.size_extract, ByteArray.size_append, eq_iff_iff, iff_true, iff_false] at *; omega)])
                  rotate_left
                  · simp only [Act.put, List.setIfInBounds_toArray, List.set_cons_zero, List.set_cons_succ, i64_w, i32_w]
                    rfl
                  refine pure_ (i := 10) (N := some 79) (v := ?_) (a' := ?_) #[true, true, true, true, true, true, true, true, true, true, true, false] rfl rfl (any_of HT_.out (by kernel_rfl)) (fun _ _ _ h => h) (Or.inl ⟨by rfl, ?_⟩) ?_ ?_
                  rotate_left
                  · intro w'
                    go_simp
                    first | with_reducible rfl | (rw [if_neg (by simp only [ByteArray.size_extract, ByteArray.size_append, eq_iff_iff, iff_true, iff_false] at *; omega)])
                  rotate_left
                  · simp only [Act.put, List.setIfInBounds_toArray, List.set_cons_zero, List.set_cons_succ, i64_w, i32_w]
                    rfl
                  refine pure_ (i := 11) (N := some 10) (v := ?_) (a' := ?_) #[true, true, true, true, true, true, true, true, true, true, true, true] rfl rfl (any_of HT_.out (by kernel_rfl)) (fun _ _ _ h => h) (Or.inl ⟨by rfl, ?_⟩) ?_ ?_
                  rotate_left
                  · intro w'
                    go_simp
                    first | with_reducible rfl | (rw [if_neg (by simp only [ByteArray.size_extract, ByteArray.size_append, eq_iff_iff, iff_true, iff_false] at *; omega)])
                  rotate_left
                  · simp only [Act.put, List.setIfInBounds_toArray, List.set_cons_zero, List.set_cons_succ, i64_w, i32_w]
                    rfl
                  refine done_ (done_of HT_.out (by kernel_rfl)) ?_
                  try go_wp2
                  go_meet
                  case rel => exact ⟨_, (((t105.extract 0 ((ji25) : Int).toNat) ++ (strOfNums y106)) ++ (t105.extract ((ji25) : Int).toNat t105.size)), (by first | rfl | (simp; done) | (simp only [← hji25] <;> (first | rfl | simp)) | (simp [*]; done)), H', ⟨by first | omega | exact Nat.le_refl _⟩, ⟨by (with_reducible repeat (first | refine blk_drewN ?_ _ | refine blk_drew ?_ | refine blk_alloc ?_ _)); exact BK102.out⟩, ⟨by (with_reducible repeat (first | refine blk_drewN ?_ _ | refine blk_drew ?_ | refine blk_alloc ?_ _)); exact BK103.out⟩, ⟨by repeat (first | (with_reducible first | exact HB.out | apply below_alloc | apply pw_below_drewN | apply below_drew1 | refine below_set ?_ GE102.out | refine below_set ?_ GE103.out) | exact HB.out)⟩⟩
                · rw [if_neg c31] at H
                  exact absurd H (by simp)
              · rw [if_neg c28] at H
                exact absurd H (by simp)
            · rw [if_neg c27] at H
              exact absurd H (by simp)
          · rw [if_neg c26] at H
            exact absurd H (by simp)
        · rw [if_neg c24] at H
          have c24b0 : ((Int.tmod (wrap64 ((Int.tmod a1_1 3) + 3)) 3) == 1) = false := beq_eq_false_iff_ne.mpr c24
          have c24b1 : ((Int.tmod (wrap64 ((Int.tmod a1_1 3) + 3)) 3) != 1) = true := bne_iff_ne.mpr c24
          by_cases c36 : (Int.tmod (wrap64 ((wrap64 ((Int.tmod a1_0 (wrap64 ((t105.size : Int) + 1))) + (t105.size : Int))) + 1)) (wrap64 ((t105.size : Int) + 1))) < (t105.size : Int)
          · rw [if_pos c36] at H
            have c36b0 : decide ((Int.tmod (wrap64 ((wrap64 ((Int.tmod a1_0 (wrap64 ((t105.size : Int) + 1))) + (t105.size : Int))) + 1)) (wrap64 ((t105.size : Int) + 1))) < (t105.size : Int)) = true := decide_eq_true c36
            clear c36
            obtain ⟨ji37, hji37⟩ : ∃ j_ : Int, (Int.tmod (wrap64 ((wrap64 ((Int.tmod a1_0 (wrap64 ((t105.size : Int) + 1))) + (t105.size : Int))) + 1)) (wrap64 ((t105.size : Int) + 1))) = j_ := ⟨_, rfl⟩
            replace H : (if 0 ≤ (ji37) then (if (ji37) ≤ (t105.size : Int) then ((some (([a2] : List Int) : List Int)).bind fun y109 => (if (t105.extract 0 ((ji37) : Int).toNat).size + (strOfNums y109).size ≤ 9223372036854775807 then (if 0 ≤ (wrap64 ((ji37) + 1)) then (if (wrap64 ((ji37) + 1)) ≤ (t105.size : Int) then (if ((t105.extract 0 ((ji37) : Int).toNat) ++ (strOfNums y109)).size + (t105.extract ((wrap64 ((ji37) + 1)) : Int).toNat t105.size).size ≤ 9223372036854775807 then (drachmlaw16_EditOne.j0 k t104 t105 (((t105.extract 0 ((ji37) : Int).toNat) ++ (strOfNums y109)) ++ (t105.extract ((wrap64 ((ji37) + 1)) : Int).toNat t105.size)) a0_0 a0_1) else (none)) else (none)) else (none)) else (none))) else (none)) else (none)) = some r := by first | (rw [hji37] at H; exact H) | (simp only [hji37] at H ⊢; exact H)
            (try rw [hji37] at c36b0)
            by_cases c38 : 0 ≤ (ji37)
            · rw [if_pos c38] at H
              have c38b0 := eq_true c38
              have c38b1 : decide (0 ≤ (ji37)) = true := decide_eq_true c38
              clear c38
              by_cases c39 : (ji37) ≤ (t105.size : Int)
              · rw [if_pos c39] at H
                have c39b0 := eq_true c39
                have c39b1 : decide ((ji37) ≤ (t105.size : Int)) = true := decide_eq_true c39
                clear c39
                obtain ⟨y109, hy109⟩ : ∃ y_ : List Int, y_ = (([a2] : List Int)) := ⟨_, rfl⟩
                replace H : (if (t105.extract 0 ((ji37) : Int).toNat).size + (strOfNums y109).size ≤ 9223372036854775807 then (if 0 ≤ (wrap64 ((ji37) + 1)) then (if (wrap64 ((ji37) + 1)) ≤ (t105.size : Int) then (if ((t105.extract 0 ((ji37) : Int).toNat) ++ (strOfNums y109)).size + (t105.extract ((wrap64 ((ji37) + 1)) : Int).toNat t105.size).size ≤ 9223372036854775807 then (drachmlaw16_EditOne.j0 k t104 t105 (((t105.extract 0 ((ji37) : Int).toNat) ++ (strOfNums y109)) ++ (t105.extract ((wrap64 ((ji37) + 1)) : Int).toNat t105.size)) a0_0 a0_1) else (none)) else (none)) else (none)) else (none)) = some r := by first | (rw [hy109]; with_reducible exact H) | (have H2_ := (Option.bind_some _ _).symm.trans H; rw [hy109]; with_reducible exact H2_) | (have H2_ := (Option.bind_some _ _).symm.trans H; with_reducible exact H2_) | with_reducible exact H | (rw [hy109]; exact H) | exact H
                have Ny109 := Aside0.mk hy109
                clear hy109
                by_cases c40 : (t105.extract 0 ((ji37) : Int).toNat).size + (strOfNums y109).size ≤ 9223372036854775807
                · rw [if_pos c40] at H
                  have c40b0 := eq_true c40
                  have c40b1 : decide ((t105.extract 0 ((ji37) : Int).toNat).size + (strOfNums y109).size ≤ 9223372036854775807) = true := decide_eq_true c40
                  try have c40b2 : (9223372036854775807 < (t105.extract 0 ((ji37) : Int).toNat).size + (strOfNums y109).size) = False := eq_false (Nat.not_lt.2 c40)
                  obtain ⟨ji41, hji41⟩ : ∃ j_ : Int, (wrap64 ((ji37) + 1)) = j_ := ⟨_, rfl⟩
                  replace H : (if 0 ≤ (ji41) then (if (ji41) ≤ (t105.size : Int) then (if ((t105.extract 0 ((ji37) : Int).toNat) ++ (strOfNums y109)).size + (t105.extract ((ji41) : Int).toNat t105.size).size ≤ 9223372036854775807 then (drachmlaw16_EditOne.j0 k t104 t105 (((t105.extract 0 ((ji37) : Int).toNat) ++ (strOfNums y109)) ++ (t105.extract ((ji41) : Int).toNat t105.size)) a0_0 a0_1) else (none)) else (none)) else (none)) = some r := by first | (rw [hji41] at H; exact H) | (simp only [hji41] at H ⊢; exact H)
                  have hji41w : (IntKind.i64.wrap ((ji37) + 1)) = ji41 := (i64_w _).trans hji41
                  by_cases c42 : 0 ≤ (ji41)
                  · rw [if_pos c42] at H
                    have c42b0 := eq_true c42
                    have c42b1 : decide (0 ≤ (ji41)) = true := decide_eq_true c42
                    clear c42
                    by_cases c43 : (ji41) ≤ (t105.size : Int)
                    · rw [if_pos c43] at H
                      have c43b0 := eq_true c43
                      have c43b1 : decide ((ji41) ≤ (t105.size : Int)) = true := decide_eq_true c43
                      clear c43
                      by_cases c44 : ((t105.extract 0 ((ji37) : Int).toNat) ++ (strOfNums y109)).size + (t105.extract ((ji41) : Int).toNat t105.size).size ≤ 9223372036854775807
                      · rw [if_pos c44] at H
                        have c44b0 := eq_true c44
                        have c44b1 : decide (((t105.extract 0 ((ji37) : Int).toNat) ++ (strOfNums y109)).size + (t105.extract ((ji41) : Int).toNat t105.size).size ≤ 9223372036854775807) = true := decide_eq_true c44
                        try have c44b2 : (9223372036854775807 < ((t105.extract 0 ((ji37) : Int).toNat) ++ (strOfNums y109)).size + (t105.extract ((ji41) : Int).toNat t105.size).size) = False := eq_false (Nat.not_lt.2 c44)
                        have H' := Aside0.mk H
                        clear H
                        try go_wp2
                        (try (rw [drewN_self w10]; generalize hq_ : World.drewN w10 _ = w10; have n0_ : Aside0 (w10.heap[gb102]? = some (.cells #[.string a0_0, .string a0_1] 30 (0, 0))) := ⟨by rw [← hq_]; exact (by (with_reducible repeat (first | refine blk_drewN ?_ _ | refine blk_drew ?_ | refine blk_alloc ?_ _)); exact BK102.out)⟩; have n1_ : Aside0 (w10.heap[gb103]? = some (.cells #[.int .i64 a1_0, .int .i64 a1_1] 31 (0, 0))) := ⟨by rw [← hq_]; exact (by (with_reducible repeat (first | refine blk_drewN ?_ _ | refine blk_drew ?_ | refine blk_alloc ?_ _)); exact BK103.out)⟩; have n2_ : Aside0 (Below w.heap.size w w10) := ⟨by rw [← hq_]; exact (by repeat (first | (with_reducible first | exact HB.out | apply below_alloc | apply pw_below_drewN | apply below_drew1 | refine below_set ?_ GE102.out | refine below_set ?_ GE103.out) | exact HB.out))⟩; clear BK102 BK103 HB hq_; have BK102 := n0_; have BK103 := n1_; have HB := n2_; clear n0_ n1_ n2_))
                        have n0_ := Aside0.mk (blk_drew BK102.out)
                        have n1_ := Aside0.mk (blk_drew BK103.out)
                        have n2_ := Aside0.mk (below_drew1 HB.out)
                        clear BK102
                        clear BK103
                        clear HB
                        have BK102 := n0_
                        have BK103 := n1_
                        have HB := n2_
                        clear n0_ n1_ n2_
                        refine start_ (n := 13) (S := fun w' => True) (ds := []) #[false, false, false, false, false, false, false, false, false, false, false, false, false] (by kernel_rfl) rfl rfl trivial (fun hHeld => ?_); refine with_tabW drachmlaw16_EditOne.tab7 drachmlaw16_EditOne.bits7 (fun HT_ HW_ => ?_)
                        generalize w10.drew = w45 at BK102 BK103 HB hHeld ⊢
                        refine pure_ (i := 0) (N := some 41) (v := ?_) (a' := ?_) #[true, false, false, false, false, false, false, false, false, false, false, false, false] rfl rfl (any_of HT_.out (by kernel_rfl)) (fun _ _ _ h => h) (Or.inl ⟨by rfl, ?_⟩) ?_ ?_
                        rotate_left
                        · intro w'
                          go_simp
                          first | with_reducible rfl | (rw [if_neg (by simp only [ByteArray.size_extract, ByteArray.size_append, eq_iff_iff, iff_true, iff_false] at *; omega)])
                        rotate_left
                        · simp only [Act.put, List.setIfInBounds_toArray, List.set_cons_zero, List.set_cons_succ, i64_w, i32_w]
                          rfl
                        refine pure_ (i := 1) (N := some 42) (v := ?_) (a' := ?_) #[true, true, false, false, false, false, false, false, false, false, false, false, false] rfl rfl (any_of HT_.out (by kernel_rfl)) (fun _ _ _ h => h) (Or.inl ⟨by rfl, ?_⟩) ?_ ?_
                        rotate_left
                        · intro w'
                          go_simp
                          first | with_reducible rfl | (rw [if_neg (by simp only [ByteArray.size_extract, ByteArray.size_append, eq_iff_iff, iff_true, iff_false] at *; omega)])
                        rotate_left
                        · simp only [Act.put, List.setIfInBounds_toArray, List.set_cons_zero, List.set_cons_succ, i64_w, i32_w]
                          rfl
                        refine pure_ (i := 2) (N := some 43) (v := ?_) (a' := ?_) #[true, true, true, false, false, false, false, false, false, false, false, false, false] rfl rfl (any_of HT_.out (by kernel_rfl)) (fun _ _ _ h => h) (Or.inl ⟨by rfl, ?_⟩) ?_ ?_
                        rotate_left
                        · intro w'
                          go_simp
                          first | with_reducible rfl | (rw [if_neg (by simp only [ByteArray.size_extract, ByteArray.size_append, eq_iff_iff, iff_true, iff_false] at *; omega)])
                        rotate_left
                        · simp only [Act.put, List.setIfInBounds_toArray, List.set_cons_zero, List.set_cons_succ, i64_w, i32_w]
                          rfl
                        refine pure_ (i := 3) (N := some 44) (v := ?_) (a' := ?_) #[true, true, true, true, false, false, false, false, false, false, false, false, false] rfl rfl (any_of HT_.out (by kernel_rfl)) (fun _ _ _ h => h) (Or.inl ⟨by rfl, ?_⟩) ?_ ?_
                        rotate_left
                        · intro w'
                          go_simp
                          first | with_reducible rfl | (rw [if_neg (by simp only [ByteArray.size_extract, ByteArray.size_append, eq_iff_iff, iff_true, iff_false] at *; omega)])
                        rotate_left
                        · simp only [Act.put, List.setIfInBounds_toArray, List.set_cons_zero, List.set_cons_succ, i64_w, i32_w]
                          rfl
                        refine pure_ (i := 7) (N := some 48) (v := ?_) (a' := ?_) #[true, true, true, true, false, false, false, true, false, false, false, false, false] rfl rfl (any_of HT_.out (by kernel_rfl)) (fun _ _ _ h => h) (Or.inl ⟨by rfl, ?_⟩) ?_ ?_
                        rotate_left
                        · intro w'
                          go_simp
                          first | with_reducible rfl | (rw [if_neg (by simp only [ByteArray.size_extract, ByteArray.size_append, eq_iff_iff, iff_true, iff_false] at *; omega)])
                        rotate_left
                        · simp only [Act.put, List.setIfInBounds_toArray, List.set_cons_zero, List.set_cons_succ, i64_w, i32_w]
                          rfl
                        refine pure_ (i := 8) (N := some 49) (v := ?_) (a' := ?_) #[true, true, true, true, false, false, false, true, true, false, false, false, false] rfl rfl (any_of HT_.out (by kernel_rfl)) (fun _ _ _ h => h) (Or.inl ⟨by rfl, ?_⟩) ?_ ?_
                        rotate_left
                        · intro w'
                          go_simp
                          first | with_reducible rfl | (rw [if_neg (by simp only [ByteArray.size_extract, ByteArray.size_append, eq_iff_iff, iff_true, iff_false] at *; omega)])
                        rotate_left
                        · simp only [Act.put, List.setIfInBounds_toArray, List.set_cons_zero, List.set_cons_succ, i64_w, i32_w]
                          rfl
                        refine pure_ (i := 9) (N := some 50) (v := ?_) (a' := ?_) #[true, true, true, true, false, false, false, true, true, true, false, false, false] rfl rfl (any_of HT_.out (by kernel_rfl)) (fun _ _ _ h => h) (Or.inl ⟨by rfl, ?_⟩) ?_ ?_
                        rotate_left
                        · intro w'
                          go_simp
                          first | with_reducible rfl | (rw [if_neg (by simp only [ByteArray.size_extract, ByteArray.size_append, eq_iff_iff, iff_true, iff_false] at *; omega)])
                        rotate_left
                        · simp only [Act.put, List.setIfInBounds_toArray, List.set_cons_zero, List.set_cons_succ, i64_w, i32_w]
                          rfl
                        refine pure_ (i := 10) (N := some 51) (v := ?_) (a' := ?_) #[true, true, true, true, false, false, false, true, true, true, true, false, false] rfl rfl (any_of HT_.out (by kernel_rfl)) (fun _ _ _ h => h) (Or.inl ⟨by rfl, ?_⟩) ?_ ?_
                        rotate_left
                        · intro w'
                          go_simp
                          first | with_reducible rfl | (rw [if_neg (by simp only [ByteArray.size_extract, ByteArray.size_append, eq_iff_iff, iff_true, iff_false] at *; omega)])
                        rotate_left
                        · simp only [Act.put, List.setIfInBounds_toArray, List.set_cons_zero, List.set_cons_succ, i64_w, i32_w]
                          rfl
                        refine one_ (i := 4) (N := some 45) #[true, true, true, true, true, false, false, true, true, true, true, false, false] rfl rfl (one_of HT_.out (by kernel_rfl)) (by decide) (fun K hK => ?_)
                        refine Kd.R_lit_step (Kd.int .u8) _ 5 ?hg (N := 45) ?hd (xs := ([a2] : List Int)) (inner := [.int .u8 a2]) (ok := fun _ => True) (okp := fun _ => True) ?hr ?hp (fun _ hk => hk) trivial (Below.refl _ _) (Nat.le_refl _) (by simp) ?_; (case hd => rfl); (case hg => rfl); (case hr => first | (go_simp; done) | (go_simp; rfl)); (case hp => exact (Reps.one (show Kd.M (Kd.int .u8) _ _ _ a2 [.int .u8 a2] from rfl) (Reps.none _ _)))
                        intro v110 w46 ho47 hb hg_ hnew_
                        clear hg_ hnew_
                        (first | rw [← Ny109.out] at ho47 | (simp only [Int.reduceToNat] at ho47; rw [← Ny109.out] at ho47))
                        have n0_ := Aside0.mk (Kd.R_lower ho47 (below_size (by repeat (first | (with_reducible first | exact HB.out | apply below_alloc | apply pw_below_drewN | apply below_drew1 | refine below_set ?_ GE102.out | refine below_set ?_ GE103.out) | exact HB.out))))
                        have n1_ := Aside0.mk (blk_below (g := gb102) (o := .cells #[.string a0_0, .string a0_1] 30 (0, 0)) (by (with_reducible repeat (first | refine blk_drewN ?_ _ | refine blk_drew ?_ | refine blk_alloc ?_ _)); exact BK102.out) hb)
                        have n2_ := Aside0.mk (blk_below (g := gb103) (o := .cells #[.int .i64 a1_0, .int .i64 a1_1] 31 (0, 0)) (by (with_reducible repeat (first | refine blk_drewN ?_ _ | refine blk_drew ?_ | refine blk_alloc ?_ _)); exact BK103.out) hb)
                        have n3_ := Aside0.mk (below_step (by repeat (first | (with_reducible first | exact HB.out | apply below_alloc | apply pw_below_drewN | apply below_drew1 | refine below_set ?_ GE102.out | refine below_set ?_ GE103.out) | exact HB.out)) hb)
                        clear BK102
                        clear BK103
                        clear HB
                        have HO111 := n0_
                        have BK102 := n1_
                        have BK103 := n2_
                        have HB := n3_
                        clear n0_ n1_ n2_ n3_
                        clear hb ho47
                        refine hK.out _ _ trivial (fun hHeld => ?_)
                        clear hK K
                        refine norm_ (a' := ?_) ?_ ?_
                        rotate_left
                        · show Act.put _ (some 45) _ = _
                          simp only [Act.put, List.setIfInBounds_toArray, List.set_cons_zero, List.set_cons_succ, i64_w, i32_w]
                          rfl
                        refine one_ (i := 5) (N := some 46) #[true, true, true, true, true, true, false, true, true, true, true, false, false] rfl rfl (one_of HT_.out (by kernel_rfl)) (by decide) (fun K hK => ?_)
                        have hcv48 := own_string (P := Try.prog) Try.underlying32 Try.underlying5 Try.underlying9 (Kd.own_of_R HO111.out)
                        refine value_ (w1 := ?_) (v := ?_) (by rfl) rfl ?_ ?_
                        rotate_left 2
                        · go_simp
                          constructor
                          · rfl
                          · rfl
                        clear hcv48
                        refine hK.out _ _ trivial (fun hHeld => ?_)
                        clear hK K
                        refine norm_ (a' := ?_) ?_ ?_
                        rotate_left
                        · show Act.put _ (some 46) _ = _
                          simp only [Act.put, List.setIfInBounds_toArray, List.set_cons_zero, List.set_cons_succ, i64_w, i32_w]
                          rfl
                        refine pure_ (i := 6) (N := some 47) (v := ?_) (a' := ?_) #[true, true, true, true, true, true, true, true, true, true, true, false, false] rfl rfl (any_of HT_.out (by kernel_rfl)) (fun _ _ _ h => h) (Or.inl ⟨by rfl, ?_⟩) ?_ ?_
                        rotate_left
                        · intro w'
                          go_simp
                          first | with_reducible rfl | (rw [if_neg (by simp only [ByteArray.size_extract, ByteArray.size_append, eq_iff_iff, iff_true, iff_false] at *; omega)])
                        rotate_left
                        · simp only [Act.put, List.setIfInBounds_toArray, List.set_cons_zero, List.set_cons_succ, i64_w, i32_w]
                          rfl
                        refine pure_ (i := 11) (N := some 52) (v := ?_) (a' := ?_) #[true, true, true, true, true, true, true, true, true, true, true, true, false] rfl rfl (any_of HT_.out (by kernel_rfl)) (fun _ _ _ h => h) (Or.inl ⟨by rfl, ?_⟩) ?_ ?_
                        rotate_left
                        · intro w'
                          go_simp
                          first | with_reducible rfl | (rw [if_neg (by simp only [ByteArray.size_extract, ByteArray.size_append, eq_iff_iff, iff_true, iff_false] at *; omega)])
                        rotate_left
                        · simp only [Act.put, List.setIfInBounds_toArray, List.set_cons_zero, List.set_cons_succ, i64_w, i32_w]
                          rfl
                        refine pure_ (i := 12) (N := some 10) (v := ?_) (a' := ?_) #[true, true, true, true, true, true, true, true, true, true, true, true, true] rfl rfl (any_of HT_.out (by kernel_rfl)) (fun _ _ _ h => h) (Or.inl ⟨by rfl, ?_⟩) ?_ ?_
                        rotate_left
                        · intro w'
                          go_simp
                          first | with_reducible rfl | (rw [if_neg (by simp only [ByteArray.size_extract, ByteArray.size_append, eq_iff_iff, iff_true, iff_false] at *; omega)])
                        rotate_left
                        · simp only [Act.put, List.setIfInBounds_toArray, List.set_cons_zero, List.set_cons_succ, i64_w, i32_w]
                          rfl
                        refine done_ (done_of HT_.out (by kernel_rfl)) ?_
                        try go_wp2
                        go_meet
                        case rel => exact ⟨_, (((t105.extract 0 ((ji37) : Int).toNat) ++ (strOfNums y109)) ++ (t105.extract ((ji41) : Int).toNat t105.size)), (by first | rfl | (simp; done) | (simp only [← hji37, ← hji41] <;> (first | rfl | simp)) | (simp [*]; done)), H', ⟨by first | omega | exact Nat.le_refl _⟩, ⟨by (with_reducible repeat (first | refine blk_drewN ?_ _ | refine blk_drew ?_ | refine blk_alloc ?_ _)); exact BK102.out⟩, ⟨by (with_reducible repeat (first | refine blk_drewN ?_ _ | refine blk_drew ?_ | refine blk_alloc ?_ _)); exact BK103.out⟩, ⟨by repeat (first | (with_reducible first | exact HB.out | apply below_alloc | apply pw_below_drewN | apply below_drew1 | refine below_set ?_ GE102.out | refine below_set ?_ GE103.out) | exact HB.out)⟩⟩
                      · rw [if_neg c44] at H
                        exact absurd H (by simp)
                    · rw [if_neg c43] at H
                      exact absurd H (by simp)
                  · rw [if_neg c42] at H
                    exact absurd H (by simp)
                · rw [if_neg c40] at H
                  exact absurd H (by simp)
              · rw [if_neg c39] at H
                exact absurd H (by simp)
            · rw [if_neg c38] at H
              exact absurd H (by simp)
          · rw [if_neg c36] at H
            have c36b0 : decide ((Int.tmod (wrap64 ((wrap64 ((Int.tmod a1_0 (wrap64 ((t105.size : Int) + 1))) + (t105.size : Int))) + 1)) (wrap64 ((t105.size : Int) + 1))) < (t105.size : Int)) = false := decide_eq_false c36
            clear c36
            have H' := Aside0.mk H
            clear H
            go_wp2
            go_meet
            case rel => exact ⟨_, (t105), (by first | rfl | (simp; done) | (simp [*]; done)), H', ⟨by first | omega | exact Nat.le_refl _⟩, ⟨by (with_reducible repeat (first | refine blk_drewN ?_ _ | refine blk_drew ?_ | refine blk_alloc ?_ _)); exact BK102.out⟩, ⟨by (with_reducible repeat (first | refine blk_drewN ?_ _ | refine blk_drew ?_ | refine blk_alloc ?_ _)); exact BK103.out⟩, ⟨by repeat (first | (with_reducible first | exact HB.out | apply below_alloc | apply pw_below_drewN | apply below_drew1 | refine below_set ?_ GE102.out | refine below_set ?_ GE103.out) | exact HB.out)⟩⟩
    case rest =>
      clear HC7
      try clear c1
      try clear c2
      try clear p2
      try clear c3
      try clear hcv3
      try clear c4
      try clear hcv4
      try clear c5
      try clear c6
      try clear c6b0
      try clear c6b1
      try clear p6
      try clear c9
      try clear c10
      try clear c11
      try clear c14
      try clear c14b0
      try clear c14b1
      try clear c15
      try clear c15b0
      try clear c17
      try clear c17b0
      try clear c17b1
      try clear c18
      try clear c18b0
      try clear c18b1
      try clear c20
      try clear c20b0
      try clear c20b1
      try clear c21
      try clear c21b0
      try clear c21b1
      try clear c22
      try clear c22b0
      try clear c22b1
      try clear c22b2
      try clear c24
      try clear c24b0
      try clear c24b1
      try clear c26
      try clear c26b0
      try clear c26b1
      try clear c27
      try clear c27b0
      try clear c27b1
      try clear c28
      try clear c28b0
      try clear c28b1
      try clear c28b2
      try clear c29
      try clear c29b0
      try clear c30
      try clear c30b0
      try clear c31
      try clear c31b0
      try clear c31b1
      try clear c31b2
      try clear hcv35
      try clear c36
      try clear c36b0
      try clear c38
      try clear c38b0
      try clear c38b1
      try clear c39
      try clear c39b0
      try clear c39b1
      try clear c40
      try clear c40b0
      try clear c40b1
      try clear c40b2
      try clear c42
      try clear c42b0
      try clear c42b1
      try clear c43
      try clear c43b0
      try clear c43b1
      try clear c44
      try clear c44b0
      try clear c44b1
      try clear c44b2
      try clear hcv48
      try clear hcz12_0
      try clear hcz12_1
      try clear hcz13_0
      try clear hcz13_1
      try clear hfz12_0
      try clear hfz12_1
      try clear hfz13_0
      try clear hfz13_1
      obtain ⟨kq, x10_6, rfl, HA, HJ6, BK102, BK103, HB⟩ := hcut
      cases kq with
      | zero => exact absurd HA.out (by simp [drachmlaw16_EditOne.j0])
      | succ kj6 =>
        have H := HA.out
        clear HA
        simp only [drachmlaw16_EditOne.j0] at H
        have HC49 := Aside0.mk H
        clear H
        go_upto_if 82 with (fail)
        go_cut [11] (fun v11 wc => ∃ (kq : Nat) (x11_48 : Int), v11 = .int .i64 x11_48 ∧ Aside0 (drachmlaw16_EditOne.j1 kq t104 t105 x10_6 x11_48 a0_0 a0_1 = some r) ∧ Aside0 (kq ≤ kj6) ∧ Aside0 (wc.heap[gb102]? = some (.cells #[.string a0_0, .string a0_1] 30 (0, 0))) ∧ Aside0 (wc.heap[gb103]? = some (.cells #[.int .i64 a1_0, .int .i64 a1_1] 31 (0, 0))) ∧ Aside0 (Below w.heap.size w wc))
        case first =>
          have H := HC49.out
          clear HC49
          by_cases c50 : t105.toList = x10_6.toList
          · rw [if_pos c50] at H
            have c50b0 : (t105.toList == x10_6.toList) = true := beq_iff_eq.mpr c50
            have c50b1 : (t105.toList != x10_6.toList) = false := bne_eq_false_iff_eq.mpr c50
            clear c50
            (first | rw [c50b0] | (simp only [i64_w, i32_w]; rw [c50b0]) | skip)
            have H' := Aside0.mk H
            clear H
            go_wp2
            go_meet
            case rel => exact ⟨_, (0), (by first | rfl | (simp; done) | (simp [*]; done)), H', ⟨by have := HJ6.out; first | omega | exact Nat.le_refl _⟩, ⟨by (with_reducible repeat (first | refine blk_drewN ?_ _ | refine blk_drew ?_ | refine blk_alloc ?_ _)); exact BK102.out⟩, ⟨by (with_reducible repeat (first | refine blk_drewN ?_ _ | refine blk_drew ?_ | refine blk_alloc ?_ _)); exact BK103.out⟩, ⟨by repeat (first | (with_reducible first | exact HB.out | apply below_alloc | apply pw_below_drewN | apply below_drew1 | refine below_set ?_ GE102.out | refine below_set ?_ GE103.out) | exact HB.out)⟩⟩
          · rw [if_neg c50] at H
            have c50b0 : (t105.toList == x10_6.toList) = false := beq_eq_false_iff_ne.mpr c50
            have c50b1 : (t105.toList != x10_6.toList) = true := bne_iff_ne.mpr c50
            (first | rw [c50b0] | (simp only [i64_w, i32_w]; rw [c50b0]) | skip)
            have H' := Aside0.mk H
            clear H
            go_wp2
            go_meet
            case rel => exact ⟨_, (1), (by first | rfl | (simp; done) | (simp [*]; done)), H', ⟨by have := HJ6.out; first | omega | exact Nat.le_refl _⟩, ⟨by (with_reducible repeat (first | refine blk_drewN ?_ _ | refine blk_drew ?_ | refine blk_alloc ?_ _)); exact BK102.out⟩, ⟨by (with_reducible repeat (first | refine blk_drewN ?_ _ | refine blk_drew ?_ | refine blk_alloc ?_ _)); exact BK103.out⟩, ⟨by repeat (first | (with_reducible first | exact HB.out | apply below_alloc | apply pw_below_drewN | apply below_drew1 | refine below_set ?_ GE102.out | refine below_set ?_ GE103.out) | exact HB.out)⟩⟩
        case rest =>
          clear HC49
          try clear c1
          try clear c2
          try clear p2
          try clear c3
          try clear hcv3
          try clear c4
          try clear hcv4
          try clear c5
          try clear c6
          try clear c6b0
          try clear c6b1
          try clear p6
          try clear c9
          try clear c10
          try clear c11
          try clear c14
          try clear c14b0
          try clear c14b1
          try clear c15
          try clear c15b0
          try clear c17
          try clear c17b0
          try clear c17b1
          try clear c18
          try clear c18b0
          try clear c18b1
          try clear c20
          try clear c20b0
          try clear c20b1
          try clear c21
          try clear c21b0
          try clear c21b1
          try clear c22
          try clear c22b0
          try clear c22b1
          try clear c22b2
          try clear c24
          try clear c24b0
          try clear c24b1
          try clear c26
          try clear c26b0
          try clear c26b1
          try clear c27
          try clear c27b0
          try clear c27b1
          try clear c28
          try clear c28b0
          try clear c28b1
          try clear c28b2
          try clear c29
          try clear c29b0
          try clear c30
          try clear c30b0
          try clear c31
          try clear c31b0
          try clear c31b1
          try clear c31b2
          try clear hcv35
          try clear c36
          try clear c36b0
          try clear c38
          try clear c38b0
          try clear c38b1
          try clear c39
          try clear c39b0
          try clear c39b1
          try clear c40
          try clear c40b0
          try clear c40b1
          try clear c40b2
          try clear c42
          try clear c42b0
          try clear c42b1
          try clear c43
          try clear c43b0
          try clear c43b1
          try clear c44
          try clear c44b0
          try clear c44b1
          try clear c44b2
          try clear hcv48
          try clear c50
          try clear c50b0
          try clear c50b1
          try clear hcz12_0
          try clear hcz12_1
          try clear hcz13_0
          try clear hcz13_1
          try clear hfz12_0
          try clear hfz12_1
          try clear hfz13_0
          try clear hfz13_1
          try clear p2
          try clear p6
          obtain ⟨kq, x11_48, rfl, HA, HJ48, BK102, BK103, HB⟩ := hcut
          cases kq with
          | zero => exact absurd HA.out (by simp [drachmlaw16_EditOne.j1])
          | succ kj48 =>
            have H := HA.out
            clear HA
            simp only [drachmlaw16_EditOne.j1] at H
            replace H := Option.bind_eq_some_iff.mp H
            obtain ⟨t112, A510, H⟩ := H
            replace H : (if t104 = true then ((edit_Distance.f t105 x10_6).bind fun t113 => (if t113 = x11_48 then (if t112.size + t105.size ≤ 9223372036854775807 then (if t112.size + x10_6.size ≤ 9223372036854775807 then ((edit_Distance.f (t112 ++ t105) (t112 ++ x10_6)).bind fun t114 => (if t114 = x11_48 then (if t105.size + t112.size ≤ 9223372036854775807 then (if x10_6.size + t112.size ≤ 9223372036854775807 then ((edit_Distance.f (t105 ++ t112) (x10_6 ++ t112)).bind fun t115 => (some (t115 == x11_48))) else (none)) else (none)) else (some false))) else (none)) else (none)) else (some false))) else (some false)) = some r := H
            have A51 := Aside0.mk A510
            clear A510
            by_cases c52 : t104 = true
            · subst c52
              have H1 : ((edit_Distance.f t105 x10_6).bind fun t113 => (if t113 = x11_48 then (if t112.size + t105.size ≤ 9223372036854775807 then (if t112.size + x10_6.size ≤ 9223372036854775807 then ((edit_Distance.f (t112 ++ t105) (t112 ++ x10_6)).bind fun t114 => (if t114 = x11_48 then (if t105.size + t112.size ≤ 9223372036854775807 then (if x10_6.size + t112.size ≤ 9223372036854775807 then ((edit_Distance.f (t105 ++ t112) (x10_6 ++ t112)).bind fun t115 => (some (t115 == x11_48))) else (none)) else (none)) else (some false))) else (none)) else (none)) else (some false))) = some r := by rw [if_pos rfl] at H; exact H
              clear H
              have H := H1
              clear H1
              replace H := Option.bind_eq_some_iff.mp H
              obtain ⟨t113, A530, H⟩ := H
              replace H : (if t113 = x11_48 then (if t112.size + t105.size ≤ 9223372036854775807 then (if t112.size + x10_6.size ≤ 9223372036854775807 then ((edit_Distance.f (t112 ++ t105) (t112 ++ x10_6)).bind fun t114 => (if t114 = x11_48 then (if t105.size + t112.size ≤ 9223372036854775807 then (if x10_6.size + t112.size ≤ 9223372036854775807 then ((edit_Distance.f (t105 ++ t112) (x10_6 ++ t112)).bind fun t115 => (some (t115 == x11_48))) else (none)) else (none)) else (some false))) else (none)) else (none)) else (some false)) = some r := H
              have A53 := Aside0.mk A530
              clear A530
              by_cases c54 : t113 = x11_48
              · rw [if_pos c54] at H
                have c54b0 : (t113 == x11_48) = true := beq_iff_eq.mpr c54
                have c54b1 : (t113 != x11_48) = false := bne_eq_false_iff_eq.mpr c54
                clear c54
                by_cases c55 : t112.size + t105.size ≤ 9223372036854775807
                · rw [if_pos c55] at H
                  have c55b0 := eq_true c55
                  have c55b1 : decide (t112.size + t105.size ≤ 9223372036854775807) = true := decide_eq_true c55
                  try have c55b2 : (9223372036854775807 < t112.size + t105.size) = False := eq_false (Nat.not_lt.2 c55)
                  by_cases c56 : t112.size + x10_6.size ≤ 9223372036854775807
                  · rw [if_pos c56] at H
                    have c56b0 := eq_true c56
                    have c56b1 : decide (t112.size + x10_6.size ≤ 9223372036854775807) = true := decide_eq_true c56
                    try have c56b2 : (9223372036854775807 < t112.size + x10_6.size) = False := eq_false (Nat.not_lt.2 c56)
                    replace H := Option.bind_eq_some_iff.mp H
                    obtain ⟨t114, A570, H⟩ := H
                    replace H : (if t114 = x11_48 then (if t105.size + t112.size ≤ 9223372036854775807 then (if x10_6.size + t112.size ≤ 9223372036854775807 then ((edit_Distance.f (t105 ++ t112) (x10_6 ++ t112)).bind fun t115 => (some (t115 == x11_48))) else (none)) else (none)) else (some false)) = some r := H
                    have A57 := Aside0.mk A570
                    clear A570
                    by_cases c58 : t114 = x11_48
                    · rw [if_pos c58] at H
                      have c58b0 : (t114 == x11_48) = true := beq_iff_eq.mpr c58
                      have c58b1 : (t114 != x11_48) = false := bne_eq_false_iff_eq.mpr c58
                      clear c58
                      by_cases c59 : t105.size + t112.size ≤ 9223372036854775807
                      · rw [if_pos c59] at H
                        have c59b0 := eq_true c59
                        have c59b1 : decide (t105.size + t112.size ≤ 9223372036854775807) = true := decide_eq_true c59
                        try have c59b2 : (9223372036854775807 < t105.size + t112.size) = False := eq_false (Nat.not_lt.2 c59)
                        by_cases c60 : x10_6.size + t112.size ≤ 9223372036854775807
                        · rw [if_pos c60] at H
                          have c60b0 := eq_true c60
                          have c60b1 : decide (x10_6.size + t112.size ≤ 9223372036854775807) = true := decide_eq_true c60
                          try have c60b2 : (9223372036854775807 < x10_6.size + t112.size) = False := eq_false (Nat.not_lt.2 c60)
                          replace H := Option.bind_eq_some_iff.mp H
                          obtain ⟨t115, A610, H⟩ := H
                          replace H : (some (t115 == x11_48)) = some r := H
                          have A61 := Aside0.mk A610
                          clear A610
                          obtain rfl := Option.some.inj H
                          have hnb62 := NB102_103.out
                          have hnc62 := NB103_102.out
                          have hcz63_0 : wc.cell? ⟨gb102, 0, none⟩ = some (.string a0_0) := (blk_cell BK102.out 0).trans rfl
                          have hcz63_1 : wc.cell? ⟨gb102, 1, none⟩ = some (.string a0_1) := (blk_cell BK102.out 1).trans rfl
                          have hfz63_0 := blk_frozen BK102.out 0
                          have hfz63_1 := blk_frozen BK102.out 1
                          go_wp2_with (first | ((with_reducible refine gate_callee (f := 10) rfl ?_); refine goesL_ (some 85) rfl rfl Try.func10 (by kernel_rfl) rfl #[.string a0_1] rfl (by (try simp only [List.map_toArray, List.map_cons, List.map_nil]); first | done | rfl | (simp only [List.length_drop, List.length_take]; rfl)) ?_; (with_reducible refine (drachmlaw16_short.calls a0_1 t112 _ A51.out).mono ?_); rintro e w' ⟨rfl, ⟨nd, rfl⟩⟩; refine ⟨_, rfl, ?_⟩) | (go_at_call 14; (with_reducible refine (edit_Distance.calls t105 x10_6 t113 _ A53.out).mono ?_); rintro e w64 ⟨rfl, hb⟩; have n0_ := Aside0.mk (blk_below (g := gb102) (o := .cells #[.string a0_0, .string a0_1] 30 (0, 0)) (by (with_reducible repeat (first | refine blk_drewN ?_ _ | refine blk_drew ?_ | refine blk_alloc ?_ _)); exact BK102.out) hb); have n1_ := Aside0.mk (blk_below (g := gb103) (o := .cells #[.int .i64 a1_0, .int .i64 a1_1] 31 (0, 0)) (by (with_reducible repeat (first | refine blk_drewN ?_ _ | refine blk_drew ?_ | refine blk_alloc ?_ _)); exact BK103.out) hb); have n2_ := Aside0.mk (below_step (by repeat (first | (with_reducible first | exact HB.out | apply below_alloc | apply pw_below_drewN | apply below_drew1 | refine below_set ?_ GE102.out | refine below_set ?_ GE103.out) | exact HB.out)) hb); clear BK102; clear BK103; clear HB; have BK102 := n0_; have BK103 := n1_; have HB := n2_; clear n0_ n1_ n2_; (try clear hb); (try clear hb2); (try clear hk); (try clear hi)) | (go_at_call 14; (with_reducible refine (edit_Distance.calls (t112 ++ t105) (t112 ++ x10_6) t114 _ A57.out).mono ?_); rintro e w65 ⟨rfl, hb⟩; have n0_ := Aside0.mk (blk_below (g := gb102) (o := .cells #[.string a0_0, .string a0_1] 30 (0, 0)) (by (with_reducible repeat (first | refine blk_drewN ?_ _ | refine blk_drew ?_ | refine blk_alloc ?_ _)); exact BK102.out) hb); have n1_ := Aside0.mk (blk_below (g := gb103) (o := .cells #[.int .i64 a1_0, .int .i64 a1_1] 31 (0, 0)) (by (with_reducible repeat (first | refine blk_drewN ?_ _ | refine blk_drew ?_ | refine blk_alloc ?_ _)); exact BK103.out) hb); have n2_ := Aside0.mk (below_step (by repeat (first | (with_reducible first | exact HB.out | apply below_alloc | apply pw_below_drewN | apply below_drew1 | refine below_set ?_ GE102.out | refine below_set ?_ GE103.out) | exact HB.out)) hb); clear BK102; clear BK103; clear HB; have BK102 := n0_; have BK103 := n1_; have HB := n2_; clear n0_ n1_ n2_; (try clear hb); (try clear hb2); (try clear hk); (try clear hi)) | (go_at_call 14; (with_reducible refine (edit_Distance.calls (t105 ++ t112) (x10_6 ++ t112) t115 _ A61.out).mono ?_); rintro e w66 ⟨rfl, hb⟩; have n0_ := Aside0.mk (blk_below (g := gb102) (o := .cells #[.string a0_0, .string a0_1] 30 (0, 0)) (by (with_reducible repeat (first | refine blk_drewN ?_ _ | refine blk_drew ?_ | refine blk_alloc ?_ _)); exact BK102.out) hb); have n1_ := Aside0.mk (blk_below (g := gb103) (o := .cells #[.int .i64 a1_0, .int .i64 a1_1] 31 (0, 0)) (by (with_reducible repeat (first | refine blk_drewN ?_ _ | refine blk_drew ?_ | refine blk_alloc ?_ _)); exact BK103.out) hb); have n2_ := Aside0.mk (below_step (by repeat (first | (with_reducible first | exact HB.out | apply below_alloc | apply pw_below_drewN | apply below_drew1 | refine below_set ?_ GE102.out | refine below_set ?_ GE103.out) | exact HB.out)) hb); clear BK102; clear BK103; clear HB; have BK102 := n0_; have BK103 := n1_; have HB := n2_; clear n0_ n1_ n2_; (try clear hb); (try clear hb2); (try clear hk); (try clear hi)))
                          go_ret
                          exact ⟨by first | rfl | (simp [errW_none, errW_some] <;> rfl) | (simp [*, errW_none, errW_some] <;> rfl), by repeat (first | (with_reducible first | exact HB.out | apply below_alloc | apply pw_below_drewN | apply below_drew1 | refine below_set ?_ GE102.out | refine below_set ?_ GE103.out) | exact HB.out)⟩
                        · rw [if_neg c60] at H
                          exact absurd H (by simp)
                      · rw [if_neg c59] at H
                        exact absurd H (by simp)
                    · rw [if_neg c58] at H
                      have c58b0 : (t114 == x11_48) = false := beq_eq_false_iff_ne.mpr c58
                      have c58b1 : (t114 != x11_48) = true := bne_iff_ne.mpr c58
                      obtain rfl := Option.some.inj H
                      have hnb67 := NB102_103.out
                      have hnc67 := NB103_102.out
                      have hcz68_0 : wc.cell? ⟨gb102, 0, none⟩ = some (.string a0_0) := (blk_cell BK102.out 0).trans rfl
                      have hcz68_1 : wc.cell? ⟨gb102, 1, none⟩ = some (.string a0_1) := (blk_cell BK102.out 1).trans rfl
                      have hfz68_0 := blk_frozen BK102.out 0
                      have hfz68_1 := blk_frozen BK102.out 1
                      go_wp2_with (first | ((with_reducible refine gate_callee (f := 10) rfl ?_); refine goesL_ (some 85) rfl rfl Try.func10 (by kernel_rfl) rfl #[.string a0_1] rfl (by (try simp only [List.map_toArray, List.map_cons, List.map_nil]); first | done | rfl | (simp only [List.length_drop, List.length_take]; rfl)) ?_; (with_reducible refine (drachmlaw16_short.calls a0_1 t112 _ A51.out).mono ?_); rintro e w' ⟨rfl, ⟨nd, rfl⟩⟩; refine ⟨_, rfl, ?_⟩) | (go_at_call 14; (with_reducible refine (edit_Distance.calls t105 x10_6 t113 _ A53.out).mono ?_); rintro e w69 ⟨rfl, hb⟩; have n0_ := Aside0.mk (blk_below (g := gb102) (o := .cells #[.string a0_0, .string a0_1] 30 (0, 0)) (by (with_reducible repeat (first | refine blk_drewN ?_ _ | refine blk_drew ?_ | refine blk_alloc ?_ _)); exact BK102.out) hb); have n1_ := Aside0.mk (blk_below (g := gb103) (o := .cells #[.int .i64 a1_0, .int .i64 a1_1] 31 (0, 0)) (by (with_reducible repeat (first | refine blk_drewN ?_ _ | refine blk_drew ?_ | refine blk_alloc ?_ _)); exact BK103.out) hb); have n2_ := Aside0.mk (below_step (by repeat (first | (with_reducible first | exact HB.out | apply below_alloc | apply pw_below_drewN | apply below_drew1 | refine below_set ?_ GE102.out | refine below_set ?_ GE103.out) | exact HB.out)) hb); clear BK102; clear BK103; clear HB; have BK102 := n0_; have BK103 := n1_; have HB := n2_; clear n0_ n1_ n2_; (try clear hb); (try clear hb2); (try clear hk); (try clear hi)) | (go_at_call 14; (with_reducible refine (edit_Distance.calls (t112 ++ t105) (t112 ++ x10_6) t114 _ A57.out).mono ?_); rintro e w70 ⟨rfl, hb⟩; have n0_ := Aside0.mk (blk_below (g := gb102) (o := .cells #[.string a0_0, .string a0_1] 30 (0, 0)) (by (with_reducible repeat (first | refine blk_drewN ?_ _ | refine blk_drew ?_ | refine blk_alloc ?_ _)); exact BK102.out) hb); have n1_ := Aside0.mk (blk_below (g := gb103) (o := .cells #[.int .i64 a1_0, .int .i64 a1_1] 31 (0, 0)) (by (with_reducible repeat (first | refine blk_drewN ?_ _ | refine blk_drew ?_ | refine blk_alloc ?_ _)); exact BK103.out) hb); have n2_ := Aside0.mk (below_step (by repeat (first | (with_reducible first | exact HB.out | apply below_alloc | apply pw_below_drewN | apply below_drew1 | refine below_set ?_ GE102.out | refine below_set ?_ GE103.out) | exact HB.out)) hb); clear BK102; clear BK103; clear HB; have BK102 := n0_; have BK103 := n1_; have HB := n2_; clear n0_ n1_ n2_; (try clear hb); (try clear hb2); (try clear hk); (try clear hi)))
                      go_ret
                      exact ⟨by first | rfl | (simp [errW_none, errW_some] <;> rfl) | (simp [*, errW_none, errW_some] <;> rfl), by repeat (first | (with_reducible first | exact HB.out | apply below_alloc | apply pw_below_drewN | apply below_drew1 | refine below_set ?_ GE102.out | refine below_set ?_ GE103.out) | exact HB.out)⟩
                  · rw [if_neg c56] at H
                    exact absurd H (by simp)
                · rw [if_neg c55] at H
                  exact absurd H (by simp)
              · rw [if_neg c54] at H
                have c54b0 : (t113 == x11_48) = false := beq_eq_false_iff_ne.mpr c54
                have c54b1 : (t113 != x11_48) = true := bne_iff_ne.mpr c54
                obtain rfl := Option.some.inj H
                have hnb71 := NB102_103.out
                have hnc71 := NB103_102.out
                have hcz72_0 : wc.cell? ⟨gb102, 0, none⟩ = some (.string a0_0) := (blk_cell BK102.out 0).trans rfl
                have hcz72_1 : wc.cell? ⟨gb102, 1, none⟩ = some (.string a0_1) := (blk_cell BK102.out 1).trans rfl
                have hfz72_0 := blk_frozen BK102.out 0
                have hfz72_1 := blk_frozen BK102.out 1
                go_wp2_with (first | ((with_reducible refine gate_callee (f := 10) rfl ?_); refine goesL_ (some 85) rfl rfl Try.func10 (by kernel_rfl) rfl #[.string a0_1] rfl (by (try simp only [List.map_toArray, List.map_cons, List.map_nil]); first | done | rfl | (simp only [List.length_drop, List.length_take]; rfl)) ?_; (with_reducible refine (drachmlaw16_short.calls a0_1 t112 _ A51.out).mono ?_); rintro e w' ⟨rfl, ⟨nd, rfl⟩⟩; refine ⟨_, rfl, ?_⟩) | (go_at_call 14; (with_reducible refine (edit_Distance.calls t105 x10_6 t113 _ A53.out).mono ?_); rintro e w73 ⟨rfl, hb⟩; have n0_ := Aside0.mk (blk_below (g := gb102) (o := .cells #[.string a0_0, .string a0_1] 30 (0, 0)) (by (with_reducible repeat (first | refine blk_drewN ?_ _ | refine blk_drew ?_ | refine blk_alloc ?_ _)); exact BK102.out) hb); have n1_ := Aside0.mk (blk_below (g := gb103) (o := .cells #[.int .i64 a1_0, .int .i64 a1_1] 31 (0, 0)) (by (with_reducible repeat (first | refine blk_drewN ?_ _ | refine blk_drew ?_ | refine blk_alloc ?_ _)); exact BK103.out) hb); have n2_ := Aside0.mk (below_step (by repeat (first | (with_reducible first | exact HB.out | apply below_alloc | apply pw_below_drewN | apply below_drew1 | refine below_set ?_ GE102.out | refine below_set ?_ GE103.out) | exact HB.out)) hb); clear BK102; clear BK103; clear HB; have BK102 := n0_; have BK103 := n1_; have HB := n2_; clear n0_ n1_ n2_; (try clear hb); (try clear hb2); (try clear hk); (try clear hi)))
                go_ret
                exact ⟨by first | rfl | (simp [errW_none, errW_some] <;> rfl) | (simp [*, errW_none, errW_some] <;> rfl), by repeat (first | (with_reducible first | exact HB.out | apply below_alloc | apply pw_below_drewN | apply below_drew1 | refine below_set ?_ GE102.out | refine below_set ?_ GE103.out) | exact HB.out)⟩
            · replace c52 := Bool.eq_false_iff.mpr c52
              subst c52
              have H1 : (some false) = some r := by rw [if_neg (show ¬ (false = true) by decide)] at H; exact H
              clear H
              have H := H1
              clear H1
              obtain rfl := Option.some.inj H
              have hnb74 := NB102_103.out
              have hnc74 := NB103_102.out
              have hcz75_0 : wc.cell? ⟨gb102, 0, none⟩ = some (.string a0_0) := (blk_cell BK102.out 0).trans rfl
              have hcz75_1 : wc.cell? ⟨gb102, 1, none⟩ = some (.string a0_1) := (blk_cell BK102.out 1).trans rfl
              have hfz75_0 := blk_frozen BK102.out 0
              have hfz75_1 := blk_frozen BK102.out 1
              go_wp2_with (first | ((with_reducible refine gate_callee (f := 10) rfl ?_); refine goesL_ (some 85) rfl rfl Try.func10 (by kernel_rfl) rfl #[.string a0_1] rfl (by (try simp only [List.map_toArray, List.map_cons, List.map_nil]); first | done | rfl | (simp only [List.length_drop, List.length_take]; rfl)) ?_; (with_reducible refine (drachmlaw16_short.calls a0_1 t112 _ A51.out).mono ?_); rintro e w' ⟨rfl, ⟨nd, rfl⟩⟩; refine ⟨_, rfl, ?_⟩))
              go_ret
              exact ⟨by first | rfl | (simp [errW_none, errW_some] <;> rfl) | (simp [*, errW_none, errW_some] <;> rfl), by repeat (first | (with_reducible first | exact HB.out | apply below_alloc | apply pw_below_drewN | apply below_drew1 | refine below_set ?_ GE102.out | refine below_set ?_ GE103.out) | exact HB.out)⟩

/-- THE ONE PURE STATEMENT of drachmlaw16_EditOne: yours. -/
def drachmlaw16_EditOne.Pure : Prop := ∀ (a0_0 : ByteArray) (a0_1 : ByteArray) (a1_0 : Int) (a1_1 : Int) (a2 : Int), a0_0.size ≤ maxLen → a0_1.size ≤ maxLen → (Lit.int .i64 a1_0).wf = true → (Lit.int .i64 a1_1).wf = true → (Lit.int .u8 a2).wf = true → ∃ k, drachmlaw16_EditOne.f k a0_0 a0_1 a1_0 a1_1 a2 = some true
theorem drachmlaw16_EditOne.walk (P : drachmlaw16_EditOne.Pure) (a0_0 : ByteArray) (a0_1 : ByteArray) (a1_0 : Int) (a1_1 : Int) (a2 : Int) (w : World) (w0_0 : a0_0.size ≤ maxLen) (w0_1 : a0_1.size ≤ maxLen) (w1_0 : (Lit.int .i64 a1_0).wf = true) (w1_1 : (Lit.int .i64 a1_1).wf = true) (w2 : (Lit.int .u8 a2).wf = true) :
    Calls Try.prog 5 #[.agg #[.string a0_0, .string a0_1], .agg #[.int .i64 a1_0, .int .i64 a1_1], .int .u8 a2] w fun e w' => e = .returned (.bool true) ∧ Below w.heap.size w w' := by
  obtain ⟨k, h⟩ := P a0_0 a0_1 a1_0 a1_1 a2 w0_0 w0_1 w1_0 w1_1 w2
  refine (drachmlaw16_EditOne.calls k a0_0 a0_1 a1_0 a1_1 a2 true w h).mono ?_
  rintro e w' ⟨rfl, hd⟩
  exact ⟨rfl, hd⟩

end Go.Proofs.Ytkogfbgeepgjgaa.PEditOne
