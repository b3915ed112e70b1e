/- Printed by a program of this session (wip/tools/prt.py) out of the translation: plain functions, and that the calls come to just them. No conditions beyond those that stand in each theorem. -/
import Derived.Test.YthfibffgmoblaaaDoorWw
import Derived.Test.YthfibffgmoblaaaDoorSq
import Derived.Test.YthfibffgmoblaaaDoorProg
import Derived.Below
import Derived.Deep.Draws
import Derived.Deep.AppendLies
import Derived.Maps.AppendAt
import Derived.OwnWalk
import Derived.Laws.BytesArg
import Derived.Laws.MakeOwn
import Derived.Laws.OwnMore
import Derived.Deep.OwnRows
import Derived.Tactics
import Derived.Lib.ConvBytes
import Derived.Laws.Slices
import Derived.WalkKit
import Derived.KernelRfl
import Derived.RowKit3
import Derived.Deep.LoopGhost
import Derived.Deep.QuietTactic
import Derived.BigQuiet
import Derived.WideLaws
import Derived.Deep.DeepCutAuto
import Derived.Deep.CutBlock
import Derived.Deep.RegionHeld3
import Derived.Laws.Rows
import Derived.Lib.AppendStr
import Derived.ArgAppend
import Derived.Laws.IdiomCopy
import Derived.OrdersHeld
import Derived.Laws.BitsLemmas
import Derived.RowKit
import Derived.Test.YthfibffgmoblaaaDoorGlob
import Derived.Test.YthfibffgmoblaaaDoorYm
import Derived.Test.YthfibffgmoblaaaDoorPBx
import Derived.Test.YthfibffgmoblaaaDoorPCx
import Derived.Test.YthfibffgmoblaaaDoorPDx
import Derived.Test.YthfibffgmoblaaaDoorPOx
import Derived.Test.YthfibffgmoblaaaDoorPRx
import Derived.Test.YthfibffgmoblaaaDoorPSx
import Derived.Test.YthfibffgmoblaaaDoorPTx
import Derived.Test.YthfibffgmoblaaaDoorPXx
import Derived.Test.YthfibffgmoblaaaDoorPQx
import Derived.Test.YthfibffgmoblaaaDoorPEx
namespace Go.Proofs.YthfibffgmoblaaaDoor.PWorthTexts
open Go.Proofs.YthfibffgmoblaaaDoor.Sq Go.RowKit Go.Proofs.YthfibffgmoblaaaDoorW.PrintWords Go.Proofs.YthfibffgmoblaaaDoorW.PrintLast Go.Proofs.YthfibffgmoblaaaDoorW.PrintMore Go.Proofs.YthfibffgmoblaaaDoor.PB Go.Proofs.YthfibffgmoblaaaDoor.PC Go.Proofs.YthfibffgmoblaaaDoor.PD Go.Proofs.YthfibffgmoblaaaDoor.PO Go.Proofs.YthfibffgmoblaaaDoor.PR Go.Proofs.YthfibffgmoblaaaDoor.PS Go.Proofs.YthfibffgmoblaaaDoor.PT Go.Proofs.YthfibffgmoblaaaDoor.PX Go.Proofs.YthfibffgmoblaaaDoor.PQ Go.Proofs.YthfibffgmoblaaaDoor.PE
attribute [local go_sem] max2_int min2_int max_two min_two max_three min_three max_four min_four   -- for this text's walks alone
set_option linter.unusedVariables false
set_option linter.unusedSimpArgs false

theorem arr_cell {w : World} {g : Nat} {e : Int → Value} (o z : Nat) (l : List Int) (j : Int) (h : ∀ i, i < l.length → w.cell? ⟨g, o + i * z, none⟩ = some (e (l.getD i 0))) (h0 : 0 ≤ j) (hj : j < (l.length : Int)) : w.cell? ⟨g, o + j.toNat * z, none⟩ = some (e (rd l j)) := h j.toNat (by omega)
theorem arr_cell1 {w : World} {g : Nat} {e : Int → Value} (l : List Int) (j : Int) (h : ∀ i, i < l.length → w.cell? ⟨g, i, none⟩ = some (e (l.getD i 0))) (h0 : 0 ≤ j) (hj : j < (l.length : Int)) : w.cell? ⟨g, j.toNat, none⟩ = some (e (rd l j)) := h j.toNat (by omega)
theorem arr_cell2 {w : World} {g : Nat} {e : Int → Value} (z : Nat) (l : List Int) (j : Int) (h : ∀ i, i < l.length → w.cell? ⟨g, i * z, none⟩ = some (e (l.getD i 0))) (h0 : 0 ≤ j) (hj : j < (l.length : Int)) : w.cell? ⟨g, j.toNat * z, none⟩ = some (e (rd l j)) := h j.toNat (by omega)


def errW : Option Int → Value
 | none => .nilIface
 | some c => .iface 0 (.int .i64 c)
theorem errW_none : errW none = .nilIface := rfl
theorem errW_some (c : Int) : errW (some c) = .iface 0 (.int .i64 c) := rfl

-- the values' own types

end Go.Proofs.YthfibffgmoblaaaDoor.PWorthTexts

namespace Go.Proofs.YthfibffgmoblaaaDoor.PWorthTexts
open Go.Proofs.YthfibffgmoblaaaDoor.Sq Go.RowKit Go.Proofs.YthfibffgmoblaaaDoorW.PrintWords Go.Proofs.YthfibffgmoblaaaDoorW.PrintLast Go.Proofs.YthfibffgmoblaaaDoorW.PrintMore Go.Proofs.YthfibffgmoblaaaDoor.PB Go.Proofs.YthfibffgmoblaaaDoor.PC Go.Proofs.YthfibffgmoblaaaDoor.PD Go.Proofs.YthfibffgmoblaaaDoor.PO Go.Proofs.YthfibffgmoblaaaDoor.PR Go.Proofs.YthfibffgmoblaaaDoor.PS Go.Proofs.YthfibffgmoblaaaDoor.PT Go.Proofs.YthfibffgmoblaaaDoor.PX Go.Proofs.YthfibffgmoblaaaDoor.PQ Go.Proofs.YthfibffgmoblaaaDoor.PE
attribute [local go_sem] max2_int min2_int max_two min_two max_three min_three max_four min_four   -- for this text's walks alone
set_option linter.unusedVariables false
set_option linter.unusedSimpArgs false

theorem eqA29 (d : Nat) (w : World) (x0 y0 : Int) (x1 y1 : Int) (x2 y2 : Int) :
  (Op.equalIn (d + 2) 29 (.agg #[.int .i64 x0, .int .i64 x1, .int .i64 x2]) (.agg #[.int .i64 y0, .int .i64 y1, .int .i64 y2])).run Tryd.prog w = .ok (x0 == y0 && (x1 == y1 && (x2 == y2))) w := by
 refine eqA_of Tryd.underlying29 (by kernel_rfl) ?_
 refine eqf_cons (by rfl) (by go_simp; rfl) (by go_simp; rfl) (by go_simp) ?_
 refine eqf_cons (by rfl) (by go_simp; rfl) (by go_simp; rfl) (by go_simp) ?_
 exact eqf_last (by rfl) (by go_simp; rfl) (by go_simp; rfl) (by go_simp)
theorem eqA23 (d : Nat) (w : World) (x0 y0 : Int) (x1 y1 : Int) (x2 y2 : Int) (x3 y3 : Int) (x4 y4 : Int) (x5 y5 : Int) (x6 y6 : Int) :
  (Op.equalIn (d + 2) 23 (.agg #[.int .i64 x0, .int .i64 x1, .int .i64 x2, .int .i64 x3, .int .i64 x4, .int .i64 x5, .int .i64 x6]) (.agg #[.int .i64 y0, .int .i64 y1, .int .i64 y2, .int .i64 y3, .int .i64 y4, .int .i64 y5, .int .i64 y6])).run Tryd.prog w = .ok (x0 == y0 && (x1 == y1 && (x2 == y2 && (x3 == y3 && (x4 == y4 && (x5 == y5 && (x6 == y6))))))) w := eqA7 d w x0 y0 x1 y1 x2 y2 x3 y3 x4 y4 x5 y5 x6 y6
theorem eqA31 (d : Nat) (w : World) (x0 y0 : Int) (x1 y1 : Int) (x2 y2 : Int) (x3 y3 : Int) (x4 y4 : Int) (x5 y5 : Int) (x6 y6 : Int) (x7 y7 : Int) (x8 y8 : Int) (x9 y9 : Int) (x10 y10 : Int) :
  (Op.equalIn (d + 3) 31 (.agg #[.int .i64 x0, .int .i64 x1, .int .i64 x2, .int .i64 x3, .int .i64 x4, .int .i64 x5, .int .i64 x6, .int .i64 x7, .int .i64 x8, .int .i64 x9, .int .i64 x10]) (.agg #[.int .i64 y0, .int .i64 y1, .int .i64 y2, .int .i64 y3, .int .i64 y4, .int .i64 y5, .int .i64 y6, .int .i64 y7, .int .i64 y8, .int .i64 y9, .int .i64 y10])).run Tryd.prog w = .ok ((x0 == y0 && (x1 == y1 && (x2 == y2))) && ((x3 == y3 && (x4 == y4 && (x5 == y5 && (x6 == y6 && (x7 == y7 && (x8 == y8 && (x9 == y9))))))) && (x10 == y10))) w := by
 refine eqA_of Tryd.underlying31 (by kernel_rfl) ?_
 refine eqf_cons (by rfl) (by go_simp) (by go_simp) (eqA29 (d + 0) w _ _ _ _ _ _) ?_
 refine eqf_cons (by rfl) (by go_simp) (by go_simp) (eqA23 (d + 0) w _ _ _ _ _ _ _ _ _ _ _ _ _ _) ?_
 exact eqf_last (by rfl) (by go_simp; rfl) (by go_simp; rfl) (by go_simp)
end Go.Proofs.YthfibffgmoblaaaDoor.PWorthTexts

namespace Go.Proofs.YthfibffgmoblaaaDoor.PWorthTexts
open Go.Proofs.YthfibffgmoblaaaDoor.Sq Go.RowKit Go.Proofs.YthfibffgmoblaaaDoorW.PrintWords Go.Proofs.YthfibffgmoblaaaDoorW.PrintLast Go.Proofs.YthfibffgmoblaaaDoorW.PrintMore Go.Proofs.YthfibffgmoblaaaDoor.PB Go.Proofs.YthfibffgmoblaaaDoor.PC Go.Proofs.YthfibffgmoblaaaDoor.PD Go.Proofs.YthfibffgmoblaaaDoor.PO Go.Proofs.YthfibffgmoblaaaDoor.PR Go.Proofs.YthfibffgmoblaaaDoor.PS Go.Proofs.YthfibffgmoblaaaDoor.PT Go.Proofs.YthfibffgmoblaaaDoor.PX Go.Proofs.YthfibffgmoblaaaDoor.PQ Go.Proofs.YthfibffgmoblaaaDoor.PE
attribute [local go_sem] max2_int min2_int max_two min_two max_three min_three max_four min_four   -- for this text's walks alone
set_option linter.unusedVariables false
set_option linter.unusedSimpArgs false

attribute [local go_sem high] eqA31
/-! ### drachmlaw04_WorthTexts: function 3 -/
def drachmlaw04_WorthTexts.f (k : Nat) (a0_0 : Int) (a0_1 : Int) (a0_2 : Int) (a0_3 : Int) (a0_4 : Int) (a0_5 : Int) (a0_6 : Int) (a0_7 : Int) (a0_8 : Int) (a0_9 : Int) (a0_10 : Int) (a0_11 : Int) (a0_12 : Int) (a0_13 : Int) (a0_14 : Int) (a0_15 : Int) (a0_16 : Int) (a0_17 : Int) (a0_18 : Int) (a0_19 : Int) (a0_20 : Int) (a0_21 : Int) : Option (Bool) := (drachmlaw04_awake.f k).bind fun t102 => ((drachmref04_Spec_Worth.f k a0_0 a0_1 a0_2 a0_3 a0_4 a0_5 a0_6 a0_7 a0_8 a0_9 a0_10).bind fun bt103 => ((drachmref04_Spec_Worth.f k a0_11 a0_12 a0_13 a0_14 a0_15 a0_16 a0_17 a0_18 a0_19 a0_20 a0_21).bind fun bt115 => ((worth_Text.f k bt103.1 bt103.2.1 bt103.2.2.1 bt103.2.2.2.1 bt103.2.2.2.2.1 bt103.2.2.2.2.2.1 bt103.2.2.2.2.2.2.1 bt103.2.2.2.2.2.2.2.1 bt103.2.2.2.2.2.2.2.2.1 bt103.2.2.2.2.2.2.2.2.2.1 bt103.2.2.2.2.2.2.2.2.2.2).bind fun t127 => ((drachmref02_Text.f k bt103.1 bt103.2.1 bt103.2.2.1).bind fun t128 => (if t102 = true then ((worth_Text.f k bt115.1 bt115.2.1 bt115.2.2.1 bt115.2.2.2.1 bt115.2.2.2.2.1 bt115.2.2.2.2.2.1 bt115.2.2.2.2.2.2.1 bt115.2.2.2.2.2.2.2.1 bt115.2.2.2.2.2.2.2.2.1 bt115.2.2.2.2.2.2.2.2.2.1 bt115.2.2.2.2.2.2.2.2.2.2).bind fun t129 => (if ((t127.toList == t129.toList) == ((bt103.1 == bt115.1 && (bt103.2.1 == bt115.2.1 && (bt103.2.2.1 == bt115.2.2.1))) && ((bt103.2.2.2.1 == bt115.2.2.2.1 && (bt103.2.2.2.2.1 == bt115.2.2.2.2.1 && (bt103.2.2.2.2.2.1 == bt115.2.2.2.2.2.1 && (bt103.2.2.2.2.2.2.1 == bt115.2.2.2.2.2.2.1 && (bt103.2.2.2.2.2.2.2.1 == bt115.2.2.2.2.2.2.2.1 && (bt103.2.2.2.2.2.2.2.2.1 == bt115.2.2.2.2.2.2.2.2.1 && (bt103.2.2.2.2.2.2.2.2.2.1 == bt115.2.2.2.2.2.2.2.2.2.1))))))) && (bt103.2.2.2.2.2.2.2.2.2.2 == bt115.2.2.2.2.2.2.2.2.2.2)))) = true then (if (t127.size : Int) ≥ (t128.size : Int) then (if 0 ≤ (t128.size : Int) then (if (t128.size : Int) ≤ (t127.size : Int) then (some ((t127.extract 0 ((t128.size : Int) : Int).toNat).toList == t128.toList)) else (none)) else (none)) else (none)) else (none))) else (none))))))
theorem drachmlaw04_WorthTexts.mono : ∀ a0 a1 a2 a3 a4 a5 a6 a7 a8 a9 a10 a11 a12 a13 a14 a15 a16 a17 a18 a19 a20 a21 k, LeO (drachmlaw04_WorthTexts.f k a0 a1 a2 a3 a4 a5 a6 a7 a8 a9 a10 a11 a12 a13 a14 a15 a16 a17 a18 a19 a20 a21) (drachmlaw04_WorthTexts.f (k + 1) a0 a1 a2 a3 a4 a5 a6 a7 a8 a9 a10 a11 a12 a13 a14 a15 a16 a17 a18 a19 a20 a21) := by
 intro a0 a1 a2 a3 a4 a5 a6 a7 a8 a9 a10 a11 a12 a13 a14 a15 a16 a17 a18 a19 a20 a21 k
 unfold drachmlaw04_WorthTexts.f
 repeat' first
   | (with_reducible exact drachmlaw04_awake.mono _)
   | (with_reducible exact drachmref02_Text.mono _ _ _ _)
   | (with_reducible exact drachmref04_Spec_Worth.mono _ _ _ _ _ _ _ _ _ _ _ _)
   | (with_reducible exact worth_Text.mono _ _ _ _ _ _ _ _ _ _ _ _)
   | (with_reducible exact LeO.refl _)
   | (with_reducible exact LeO.none _)
   | (with_reducible refine LeO.ite ?_ ?_)
   | (with_reducible refine LeO.bind ?_ (fun _ => ?_))
   | exact drachmlaw04_awake.mono _
   | exact drachmref02_Text.mono _ _ _ _
   | exact drachmref04_Spec_Worth.mono _ _ _ _ _ _ _ _ _ _ _ _
   | exact worth_Text.mono _ _ _ _ _ _ _ _ _ _ _ _
   | exact LeO.none _
   | refine LeO.ite ?_ ?_
   | refine LeO.bind ?_ (fun _ => ?_)
def drachmlaw04_WorthTexts.T6 : Bool × List (List Nat × List Nat) := (true, [([], []), ([0], [0]), ([1], [1]), ([1], [1]), ([3, 1, 1], [1, 3]), ([2, 4, 1], [1, 2, 4]), ([1], [1]), ([1], [1]), ([6, 7, 1], [1, 6, 7]), ([5, 8, 1], [1, 5, 8]), ([1, 9], [1, 9]), ([10, 4], [10]), ([11], [11]), ([12, 11], [11, 12]), ([11], [11]), ([14, 11], [11, 14]), ([13, 15, 11], [11, 13, 15]), ([11, 16], [11, 16]), ([17, 11], [17]), ([18], [18]), ([18], [18]), ([20, 18], [18, 20]), ([19, 21, 18], [18, 19, 21]), ([18], [18]), ([22, 23, 18], [18, 22, 23]), ([18, 24], [18, 24]), ([25, 18, 0, 1, 2, 3, 4, 5, 6, 7, 8, 9, 10, 11, 12, 13, 14, 15, 16, 17, 18, 19, 20, 21, 22, 23, 24, 25], [25])])
def drachmlaw04_WorthTexts.B6 : List Nat := [0, 1, 3, 3, 11, 31, 3, 3, 195, 511, 1023, 2047, 4095, 8191, 4095, 20479, 65535, 131071, 262143, 524287, 524287, 1572863, 4194303, 524287, 16777215, 33554431, 67108863]
theorem drachmlaw04_WorthTexts.tab6 : rtab .any (opsOf Tryd.f3 6) = drachmlaw04_WorthTexts.T6 := by kernel_rfl
theorem drachmlaw04_WorthTexts.bits6 : waitsOk drachmlaw04_WorthTexts.T6.2 drachmlaw04_WorthTexts.B6 = true := by kernel_rfl
set_option maxHeartbeats 8000000 in
set_option maxRecDepth 100000 in
theorem drachmlaw04_WorthTexts.calls (k : Nat) (a0_0 : Int) (a0_1 : Int) (a0_2 : Int) (a0_3 : Int) (a0_4 : Int) (a0_5 : Int) (a0_6 : Int) (a0_7 : Int) (a0_8 : Int) (a0_9 : Int) (a0_10 : Int) (a0_11 : Int) (a0_12 : Int) (a0_13 : Int) (a0_14 : Int) (a0_15 : Int) (a0_16 : Int) (a0_17 : Int) (a0_18 : Int) (a0_19 : Int) (a0_20 : Int) (a0_21 : Int) (r : Bool) (w : World) (hG : Glob [1, 2] w) (h : drachmlaw04_WorthTexts.f k a0_0 a0_1 a0_2 a0_3 a0_4 a0_5 a0_6 a0_7 a0_8 a0_9 a0_10 a0_11 a0_12 a0_13 a0_14 a0_15 a0_16 a0_17 a0_18 a0_19 a0_20 a0_21 = some r) :
  Calls Tryd.prog 3 #[.agg #[.int .i64 a0_0, .int .i64 a0_1, .int .i64 a0_2, .int .i64 a0_3, .int .i64 a0_4, .int .i64 a0_5, .int .i64 a0_6, .int .i64 a0_7, .int .i64 a0_8, .int .i64 a0_9, .int .i64 a0_10, .int .i64 a0_11, .int .i64 a0_12, .int .i64 a0_13, .int .i64 a0_14, .int .i64 a0_15, .int .i64 a0_16, .int .i64 a0_17, .int .i64 a0_18, .int .i64 a0_19, .int .i64 a0_20, .int .i64 a0_21]] w fun e w' => e = .returned (.bool r) ∧ Below w.heap.size w w' := by
 have hu26 := Tryd.underlying26
 have hu25 := Tryd.underlying25
 have hu31 := Tryd.underlying31
 have hu29 := Tryd.underlying29
 have HB := Aside0.mk (Below.refl w.heap.size w)
 have H : ((drachmlaw04_awake.f k).bind fun t102 => ((drachmref04_Spec_Worth.f k a0_0 a0_1 a0_2 a0_3 a0_4 a0_5 a0_6 a0_7 a0_8 a0_9 a0_10).bind fun bt103 => ((drachmref04_Spec_Worth.f k a0_11 a0_12 a0_13 a0_14 a0_15 a0_16 a0_17 a0_18 a0_19 a0_20 a0_21).bind fun bt115 => ((worth_Text.f k bt103.1 bt103.2.1 bt103.2.2.1 bt103.2.2.2.1 bt103.2.2.2.2.1 bt103.2.2.2.2.2.1 bt103.2.2.2.2.2.2.1 bt103.2.2.2.2.2.2.2.1 bt103.2.2.2.2.2.2.2.2.1 bt103.2.2.2.2.2.2.2.2.2.1 bt103.2.2.2.2.2.2.2.2.2.2).bind fun t127 => ((drachmref02_Text.f k bt103.1 bt103.2.1 bt103.2.2.1).bind fun t128 => (if t102 = true then ((worth_Text.f k bt115.1 bt115.2.1 bt115.2.2.1 bt115.2.2.2.1 bt115.2.2.2.2.1 bt115.2.2.2.2.2.1 bt115.2.2.2.2.2.2.1 bt115.2.2.2.2.2.2.2.1 bt115.2.2.2.2.2.2.2.2.1 bt115.2.2.2.2.2.2.2.2.2.1 bt115.2.2.2.2.2.2.2.2.2.2).bind fun t129 => (if ((t127.toList == t129.toList) == ((bt103.1 == bt115.1 && (bt103.2.1 == bt115.2.1 && (bt103.2.2.1 == bt115.2.2.1))) && ((bt103.2.2.2.1 == bt115.2.2.2.1 && (bt103.2.2.2.2.1 == bt115.2.2.2.2.1 && (bt103.2.2.2.2.2.1 == bt115.2.2.2.2.2.1 && (bt103.2.2.2.2.2.2.1 == bt115.2.2.2.2.2.2.1 && (bt103.2.2.2.2.2.2.2.1 == bt115.2.2.2.2.2.2.2.1 && (bt103.2.2.2.2.2.2.2.2.1 == bt115.2.2.2.2.2.2.2.2.1 && (bt103.2.2.2.2.2.2.2.2.2.1 == bt115.2.2.2.2.2.2.2.2.2.1))))))) && (bt103.2.2.2.2.2.2.2.2.2.2 == bt115.2.2.2.2.2.2.2.2.2.2)))) = true then (if (t127.size : Int) ≥ (t128.size : Int) then (if 0 ≤ (t128.size : Int) then (if (t128.size : Int) ≤ (t127.size : Int) then (some ((t127.extract 0 ((t128.size : Int) : Int).toNat).toList == t128.toList)) else (none)) else (none)) else (none)) else (none))) else (none))))))) = some r := h
 clear h
 replace H := Option.bind_eq_some_iff.mp H
 obtain ⟨t102, A20, H⟩ := H
 replace H : ((drachmref04_Spec_Worth.f k a0_0 a0_1 a0_2 a0_3 a0_4 a0_5 a0_6 a0_7 a0_8 a0_9 a0_10).bind fun bt103 => ((drachmref04_Spec_Worth.f k a0_11 a0_12 a0_13 a0_14 a0_15 a0_16 a0_17 a0_18 a0_19 a0_20 a0_21).bind fun bt115 => ((worth_Text.f k bt103.1 bt103.2.1 bt103.2.2.1 bt103.2.2.2.1 bt103.2.2.2.2.1 bt103.2.2.2.2.2.1 bt103.2.2.2.2.2.2.1 bt103.2.2.2.2.2.2.2.1 bt103.2.2.2.2.2.2.2.2.1 bt103.2.2.2.2.2.2.2.2.2.1 bt103.2.2.2.2.2.2.2.2.2.2).bind fun t127 => ((drachmref02_Text.f k bt103.1 bt103.2.1 bt103.2.2.1).bind fun t128 => (if t102 = true then ((worth_Text.f k bt115.1 bt115.2.1 bt115.2.2.1 bt115.2.2.2.1 bt115.2.2.2.2.1 bt115.2.2.2.2.2.1 bt115.2.2.2.2.2.2.1 bt115.2.2.2.2.2.2.2.1 bt115.2.2.2.2.2.2.2.2.1 bt115.2.2.2.2.2.2.2.2.2.1 bt115.2.2.2.2.2.2.2.2.2.2).bind fun t129 => (if ((t127.toList == t129.toList) == ((bt103.1 == bt115.1 && (bt103.2.1 == bt115.2.1 && (bt103.2.2.1 == bt115.2.2.1))) && ((bt103.2.2.2.1 == bt115.2.2.2.1 && (bt103.2.2.2.2.1 == bt115.2.2.2.2.1 && (bt103.2.2.2.2.2.1 == bt115.2.2.2.2.2.1 && (bt103.2.2.2.2.2.2.1 == bt115.2.2.2.2.2.2.1 && (bt103.2.2.2.2.2.2.2.1 == bt115.2.2.2.2.2.2.2.1 && (bt103.2.2.2.2.2.2.2.2.1 == bt115.2.2.2.2.2.2.2.2.1 && (bt103.2.2.2.2.2.2.2.2.2.1 == bt115.2.2.2.2.2.2.2.2.2.1))))))) && (bt103.2.2.2.2.2.2.2.2.2.2 == bt115.2.2.2.2.2.2.2.2.2.2)))) = true then (if (t127.size : Int) ≥ (t128.size : Int) then (if 0 ≤ (t128.size : Int) then (if (t128.size : Int) ≤ (t127.size : Int) then (some ((t127.extract 0 ((t128.size : Int) : Int).toNat).toList == t128.toList)) else (none)) else (none)) else (none)) else (none))) else (none)))))) = some r := H
 have A2 := Aside0.mk A20
 clear A20
 replace H := Option.bind_eq_some_iff.mp H
 obtain ⟨⟨t103, t104, t105, t106, t107, t108, t109, t110, t111, t112, t113⟩, A30, H⟩ := H
 replace H : ((drachmref04_Spec_Worth.f k a0_11 a0_12 a0_13 a0_14 a0_15 a0_16 a0_17 a0_18 a0_19 a0_20 a0_21).bind fun bt115 => ((worth_Text.f k t103 t104 t105 t106 t107 t108 t109 t110 t111 t112 t113).bind fun t127 => ((drachmref02_Text.f k t103 t104 t105).bind fun t128 => (if t102 = true then ((worth_Text.f k bt115.1 bt115.2.1 bt115.2.2.1 bt115.2.2.2.1 bt115.2.2.2.2.1 bt115.2.2.2.2.2.1 bt115.2.2.2.2.2.2.1 bt115.2.2.2.2.2.2.2.1 bt115.2.2.2.2.2.2.2.2.1 bt115.2.2.2.2.2.2.2.2.2.1 bt115.2.2.2.2.2.2.2.2.2.2).bind fun t129 => (if ((t127.toList == t129.toList) == ((t103 == bt115.1 && (t104 == bt115.2.1 && (t105 == bt115.2.2.1))) && ((t106 == bt115.2.2.2.1 && (t107 == bt115.2.2.2.2.1 && (t108 == bt115.2.2.2.2.2.1 && (t109 == bt115.2.2.2.2.2.2.1 && (t110 == bt115.2.2.2.2.2.2.2.1 && (t111 == bt115.2.2.2.2.2.2.2.2.1 && (t112 == bt115.2.2.2.2.2.2.2.2.2.1))))))) && (t113 == bt115.2.2.2.2.2.2.2.2.2.2)))) = true then (if (t127.size : Int) ≥ (t128.size : Int) then (if 0 ≤ (t128.size : Int) then (if (t128.size : Int) ≤ (t127.size : Int) then (some ((t127.extract 0 ((t128.size : Int) : Int).toNat).toList == t128.toList)) else (none)) else (none)) else (none)) else (none))) else (none))))) = some r := H
 have A3 := Aside0.mk A30
 clear A30
 replace H := Option.bind_eq_some_iff.mp H
 obtain ⟨⟨t115, t116, t117, t118, t119, t120, t121, t122, t123, t124, t125⟩, A40, H⟩ := H
 replace H : ((worth_Text.f k t103 t104 t105 t106 t107 t108 t109 t110 t111 t112 t113).bind fun t127 => ((drachmref02_Text.f k t103 t104 t105).bind fun t128 => (if t102 = true then ((worth_Text.f k t115 t116 t117 t118 t119 t120 t121 t122 t123 t124 t125).bind fun t129 => (if ((t127.toList == t129.toList) == ((t103 == t115 && (t104 == t116 && (t105 == t117))) && ((t106 == t118 && (t107 == t119 && (t108 == t120 && (t109 == t121 && (t110 == t122 && (t111 == t123 && (t112 == t124))))))) && (t113 == t125)))) = true then (if (t127.size : Int) ≥ (t128.size : Int) then (if 0 ≤ (t128.size : Int) then (if (t128.size : Int) ≤ (t127.size : Int) then (some ((t127.extract 0 ((t128.size : Int) : Int).toNat).toList == t128.toList)) else (none)) else (none)) else (none)) else (none))) else (none)))) = some r := H
 have A4 := Aside0.mk A40
 clear A40
 replace H := Option.bind_eq_some_iff.mp H
 obtain ⟨t127, A50, H⟩ := H
 replace H : ((drachmref02_Text.f k t103 t104 t105).bind fun t128 => (if t102 = true then ((worth_Text.f k t115 t116 t117 t118 t119 t120 t121 t122 t123 t124 t125).bind fun t129 => (if ((t127.toList == t129.toList) == ((t103 == t115 && (t104 == t116 && (t105 == t117))) && ((t106 == t118 && (t107 == t119 && (t108 == t120 && (t109 == t121 && (t110 == t122 && (t111 == t123 && (t112 == t124))))))) && (t113 == t125)))) = true then (if (t127.size : Int) ≥ (t128.size : Int) then (if 0 ≤ (t128.size : Int) then (if (t128.size : Int) ≤ (t127.size : Int) then (some ((t127.extract 0 ((t128.size : Int) : Int).toNat).toList == t128.toList)) else (none)) else (none)) else (none)) else (none))) else (none))) = some r := H
 have A5 := Aside0.mk A50
 clear A50
 replace H := Option.bind_eq_some_iff.mp H
 obtain ⟨t128, A60, H⟩ := H
 replace H : (if t102 = true then ((worth_Text.f k t115 t116 t117 t118 t119 t120 t121 t122 t123 t124 t125).bind fun t129 => (if ((t127.toList == t129.toList) == ((t103 == t115 && (t104 == t116 && (t105 == t117))) && ((t106 == t118 && (t107 == t119 && (t108 == t120 && (t109 == t121 && (t110 == t122 && (t111 == t123 && (t112 == t124))))))) && (t113 == t125)))) = true then (if (t127.size : Int) ≥ (t128.size : Int) then (if 0 ≤ (t128.size : Int) then (if (t128.size : Int) ≤ (t127.size : Int) then (some ((t127.extract 0 ((t128.size : Int) : Int).toNat).toList == t128.toList)) else (none)) else (none)) else (none)) else (none))) else (none)) = some r := H
 have A6 := Aside0.mk A60
 clear A60
 by_cases c7 : t102 = true
 ·subst c7
  have H1 : ((worth_Text.f k t115 t116 t117 t118 t119 t120 t121 t122 t123 t124 t125).bind fun t129 => (if ((t127.toList == t129.toList) == ((t103 == t115 && (t104 == t116 && (t105 == t117))) && ((t106 == t118 && (t107 == t119 && (t108 == t120 && (t109 == t121 && (t110 == t122 && (t111 == t123 && (t112 == t124))))))) && (t113 == t125)))) = true then (if (t127.size : Int) ≥ (t128.size : Int) then (if 0 ≤ (t128.size : Int) then (if (t128.size : Int) ≤ (t127.size : Int) then (some ((t127.extract 0 ((t128.size : Int) : Int).toNat).toList == t128.toList)) else (none)) else (none)) else (none)) else (none))) = some r := by rw [if_pos rfl] at H; exact H
  clear H
  have H := H1
  clear H1
  replace H := Option.bind_eq_some_iff.mp H
  obtain ⟨t129, A80, H⟩ := H
  replace H : (if ((t127.toList == t129.toList) == ((t103 == t115 && (t104 == t116 && (t105 == t117))) && ((t106 == t118 && (t107 == t119 && (t108 == t120 && (t109 == t121 && (t110 == t122 && (t111 == t123 && (t112 == t124))))))) && (t113 == t125)))) = true then (if (t127.size : Int) ≥ (t128.size : Int) then (if 0 ≤ (t128.size : Int) then (if (t128.size : Int) ≤ (t127.size : Int) then (some ((t127.extract 0 ((t128.size : Int) : Int).toNat).toList == t128.toList)) else (none)) else (none)) else (none)) else (none)) = some r := H
  have A8 := Aside0.mk A80
  clear A80
  by_cases c9 : ((t127.toList == t129.toList) == ((t103 == t115 && (t104 == t116 && (t105 == t117))) && ((t106 == t118 && (t107 == t119 && (t108 == t120 && (t109 == t121 && (t110 == t122 && (t111 == t123 && (t112 == t124))))))) && (t113 == t125)))) = true
  ·rw [if_pos c9] at H
   have c9b0 : ((t127.toList == t129.toList) == ((t103 == t115 && (t104 == t116 && (t105 == t117))) && ((t106 == t118 && (t107 == t119 && (t108 == t120 && (t109 == t121 && (t110 == t122 && (t111 == t123 && (t112 == t124))))))) && (t113 == t125)))) = true := c9
   (try (have c9b1 : decide ((t127.toList == t129.toList) = ((t103 == t115 && (t104 == t116 && (t105 == t117))) && ((t106 == t118 && (t107 == t119 && (t108 == t120 && (t109 == t121 && (t110 == t122 && (t111 == t123 && (t112 == t124))))))) && (t113 == t125)))) = true := by simpa using c9))
   (try (have c9b2 : ((t127.toList == t129.toList) == ((t103 == t115 && (t104 == t116 && (t105 == t117))) && ((t106 == t118 && (t107 == t119 && (t108 == t120 && (t109 == t121 && (t110 == t122 && (t111 == t123 && (t112 == t124))))))) && (t113 == t125)))) = true := by simpa using c9))
   clear c9
   by_cases c10 : (t127.size : Int) ≥ (t128.size : Int)
   ·rw [if_pos c10] at H
    have c10b0 : decide ((t128.size : Int) ≤ (t127.size : Int)) = true := decide_eq_true c10
    have c10b1 : decide (t128.size ≤ t127.size) = true := decide_eq_true (Int.ofNat_le.mp c10)
    clear c10
    by_cases c11 : 0 ≤ (t128.size : Int)
    ·rw [if_pos c11] at H
     have c11b0 := eq_true c11
     have c11b1 : decide (0 ≤ (t128.size : Int)) = true := decide_eq_true c11
     clear c11
     by_cases c12 : (t128.size : Int) ≤ (t127.size : Int)
     ·rw [if_pos c12] at H
      have c12b0 := eq_true c12
      have c12b1 : decide ((t128.size : Int) ≤ (t127.size : Int)) = true := decide_eq_true c12
      clear c12
      obtain rfl := Option.some.inj H
      go_enter Tryd.func3, Tryd.ntmps3
      try go_wp2_with (first | ((with_reducible refine gate_dst (N := 1) rfl ?_); (try (refine gate_guard (by rfl) ?_; dsimp only)); refine box_event ?hg (N := 1) ?hd (cs := #[.int .i64 a0_0, .int .i64 a0_1, .int .i64 a0_2, .int .i64 a0_3, .int .i64 a0_4, .int .i64 a0_5, .int .i64 a0_6, .int .i64 a0_7, .int .i64 a0_8, .int .i64 a0_9, .int .i64 a0_10, .int .i64 a0_11, .int .i64 a0_12, .int .i64 a0_13, .int .i64 a0_14, .int .i64 a0_15, .int .i64 a0_16, .int .i64 a0_17, .int .i64 a0_18, .int .i64 a0_19, .int .i64 a0_20, .int .i64 a0_21]) (t := 26) ?hr ?_; (case hd => rfl); (case hg => rfl); (case hr => first | (go_simp; done) | (go_simp; rfl)); intro gb101 hg w13 hbox hb; have n0_ := sb HB hb; have n1_ := Aside0.mk (hbox); have n2_ := Aside0.mk ((by rw [hg]; exact (below_size (bl HB.out)) : w.heap.size ≤ gb101)); have n3_ := Aside0.mk ((by rw [hg]; exact (below_size (bl HB.out)) : w.heap.size ≤ gb101)); clear HB; have HB := n0_; have BK101 := n1_; have GW101 := n2_; have GE101 := n3_; clear n0_ n1_ n2_ n3_; clear hb hbox hg) | (go_at_call 9; (with_reducible refine (drachmlaw04_awake.calls k  true _ (Glob.use hG (by decide) (bl HB.out)) A2.out).mono ?_); rintro e w14 ⟨rfl, hb⟩; replace BK101 := kb BK101 hb; replace HB := sb HB hb; (try clear hb); (try clear hb2); (try clear hk); (try clear hi); have hcz15_0 : w14.cell? ⟨gb101, 0, none⟩ = some (.int .i64 a0_0) := (blk_cell BK101.out 0).trans rfl; have hcz15_1 : w14.cell? ⟨gb101, 1, none⟩ = some (.int .i64 a0_1) := (blk_cell BK101.out 1).trans rfl; have hcz15_2 : w14.cell? ⟨gb101, 2, none⟩ = some (.int .i64 a0_2) := (blk_cell BK101.out 2).trans rfl; have hcz15_3 : w14.cell? ⟨gb101, 3, none⟩ = some (.int .i64 a0_3) := (blk_cell BK101.out 3).trans rfl; have hcz15_4 : w14.cell? ⟨gb101, 4, none⟩ = some (.int .i64 a0_4) := (blk_cell BK101.out 4).trans rfl; have hcz15_5 : w14.cell? ⟨gb101, 5, none⟩ = some (.int .i64 a0_5) := (blk_cell BK101.out 5).trans rfl; have hcz15_6 : w14.cell? ⟨gb101, 6, none⟩ = some (.int .i64 a0_6) := (blk_cell BK101.out 6).trans rfl; have hcz15_7 : w14.cell? ⟨gb101, 7, none⟩ = some (.int .i64 a0_7) := (blk_cell BK101.out 7).trans rfl; have hcz15_8 : w14.cell? ⟨gb101, 8, none⟩ = some (.int .i64 a0_8) := (blk_cell BK101.out 8).trans rfl; have hcz15_9 : w14.cell? ⟨gb101, 9, none⟩ = some (.int .i64 a0_9) := (blk_cell BK101.out 9).trans rfl; have hcz15_10 : w14.cell? ⟨gb101, 10, none⟩ = some (.int .i64 a0_10) := (blk_cell BK101.out 10).trans rfl; have hcz15_11 : w14.cell? ⟨gb101, 11, none⟩ = some (.int .i64 a0_11) := (blk_cell BK101.out 11).trans rfl; have hcz15_12 : w14.cell? ⟨gb101, 12, none⟩ = some (.int .i64 a0_12) := (blk_cell BK101.out 12).trans rfl; have hcz15_13 : w14.cell? ⟨gb101, 13, none⟩ = some (.int .i64 a0_13) := (blk_cell BK101.out 13).trans rfl; have hcz15_14 : w14.cell? ⟨gb101, 14, none⟩ = some (.int .i64 a0_14) := (blk_cell BK101.out 14).trans rfl; have hcz15_15 : w14.cell? ⟨gb101, 15, none⟩ = some (.int .i64 a0_15) := (blk_cell BK101.out 15).trans rfl; have hcz15_16 : w14.cell? ⟨gb101, 16, none⟩ = some (.int .i64 a0_16) := (blk_cell BK101.out 16).trans rfl; have hcz15_17 : w14.cell? ⟨gb101, 17, none⟩ = some (.int .i64 a0_17) := (blk_cell BK101.out 17).trans rfl; have hcz15_18 : w14.cell? ⟨gb101, 18, none⟩ = some (.int .i64 a0_18) := (blk_cell BK101.out 18).trans rfl; have hcz15_19 : w14.cell? ⟨gb101, 19, none⟩ = some (.int .i64 a0_19) := (blk_cell BK101.out 19).trans rfl; have hcz15_20 : w14.cell? ⟨gb101, 20, none⟩ = some (.int .i64 a0_20) := (blk_cell BK101.out 20).trans rfl; have hcz15_21 : w14.cell? ⟨gb101, 21, none⟩ = some (.int .i64 a0_21) := (blk_cell BK101.out 21).trans rfl; have hfz15_0 := blk_frozen BK101.out 0; have hfz15_1 := blk_frozen BK101.out 1; have hfz15_2 := blk_frozen BK101.out 2; have hfz15_3 := blk_frozen BK101.out 3; have hfz15_4 := blk_frozen BK101.out 4; have hfz15_5 := blk_frozen BK101.out 5; have hfz15_6 := blk_frozen BK101.out 6; have hfz15_7 := blk_frozen BK101.out 7; have hfz15_8 := blk_frozen BK101.out 8; have hfz15_9 := blk_frozen BK101.out 9; have hfz15_10 := blk_frozen BK101.out 10; have hfz15_11 := blk_frozen BK101.out 11; have hfz15_12 := blk_frozen BK101.out 12; have hfz15_13 := blk_frozen BK101.out 13; have hfz15_14 := blk_frozen BK101.out 14; have hfz15_15 := blk_frozen BK101.out 15; have hfz15_16 := blk_frozen BK101.out 16; have hfz15_17 := blk_frozen BK101.out 17; have hfz15_18 := blk_frozen BK101.out 18; have hfz15_19 := blk_frozen BK101.out 19; have hfz15_20 := blk_frozen BK101.out 20; have hfz15_21 := blk_frozen BK101.out 21) | (go_at_call 10; (with_reducible refine (drachmref04_Spec_Worth.calls k a0_0 a0_1 a0_2 a0_3 a0_4 a0_5 a0_6 a0_7 a0_8 a0_9 a0_10 t103 t104 t105 t106 t107 t108 t109 t110 t111 t112 t113 _ A3.out).mono ?_); rintro e w16 ⟨rfl, hb⟩; replace BK101 := kb BK101 hb; replace HB := sb HB hb; (try clear hb); (try clear hb2); (try clear hk); (try clear hi)) | ((with_reducible refine gate_dst (N := 4) rfl ?_); (try (refine gate_guard (by rfl) ?_; dsimp only)); refine box_event ?hg (N := 4) ?hd (cs := #[.int .i64 0, .int .i64 0, .int .i64 0, .int .i64 0, .int .i64 0, .int .i64 0, .int .i64 0, .int .i64 0, .int .i64 0, .int .i64 0, .int .i64 0]) (t := 31) ?hr ?_; (case hd => rfl); (case hg => rfl); (case hr => first | (go_simp; done) | (go_simp; rfl)); intro gb114 hg w17 hbox hb; have n0_ := kb BK101 hb; have n1_ := sb HB hb; have n2_ := Aside0.mk (hbox); have n3_ := Aside0.mk ((by rw [hg]; exact (below_size (bl HB.out)) : w.heap.size ≤ gb114)); have n4_ := Aside0.mk ((by rw [hg]; exact (below_size (bl HB.out)) : w.heap.size ≤ gb114)); have n5_ := Aside0.mk ((by rw [hg]; exact Nat.ne_of_lt (blk_lt (kp BK101.out)) : gb101 ≠ gb114)); have n6_ := Aside0.mk ((by rw [hg]; exact Nat.ne_of_gt (blk_lt (kp BK101.out)) : gb114 ≠ gb101)); clear BK101; clear HB; have BK101 := n0_; have HB := n1_; have BK114 := n2_; have GW114 := n3_; have GE114 := n4_; have NB101_114 := n5_; have NB114_101 := n6_; clear n0_ n1_ n2_ n3_ n4_ n5_ n6_; clear hb hbox hg; have hnb18 := NB114_101.out; have hnc18 := NB101_114.out; obtain ⟨hcz19_0, hcz19_1, hcz19_2, hcz19_3, hcz19_4, hcz19_5, hcz19_6, hcz19_7, hcz19_8, hcz19_9, hcz19_10⟩ := hc11 BK114.out; obtain ⟨hfz19_0, hfz19_1, hfz19_2, hfz19_3, hfz19_4, hfz19_5, hfz19_6, hfz19_7, hfz19_8, hfz19_9, hfz19_10⟩ := hf11 BK114.out; have hcz20_0 : w17.cell? ⟨gb101, 0, none⟩ = some (.int .i64 a0_0) := (blk_cell BK101.out 0).trans rfl; have hcz20_1 : w17.cell? ⟨gb101, 1, none⟩ = some (.int .i64 a0_1) := (blk_cell BK101.out 1).trans rfl; have hcz20_2 : w17.cell? ⟨gb101, 2, none⟩ = some (.int .i64 a0_2) := (blk_cell BK101.out 2).trans rfl; have hcz20_3 : w17.cell? ⟨gb101, 3, none⟩ = some (.int .i64 a0_3) := (blk_cell BK101.out 3).trans rfl; have hcz20_4 : w17.cell? ⟨gb101, 4, none⟩ = some (.int .i64 a0_4) := (blk_cell BK101.out 4).trans rfl; have hcz20_5 : w17.cell? ⟨gb101, 5, none⟩ = some (.int .i64 a0_5) := (blk_cell BK101.out 5).trans rfl; have hcz20_6 : w17.cell? ⟨gb101, 6, none⟩ = some (.int .i64 a0_6) := (blk_cell BK101.out 6).trans rfl; have hcz20_7 : w17.cell? ⟨gb101, 7, none⟩ = some (.int .i64 a0_7) := (blk_cell BK101.out 7).trans rfl; have hcz20_8 : w17.cell? ⟨gb101, 8, none⟩ = some (.int .i64 a0_8) := (blk_cell BK101.out 8).trans rfl; have hcz20_9 : w17.cell? ⟨gb101, 9, none⟩ = some (.int .i64 a0_9) := (blk_cell BK101.out 9).trans rfl; have hcz20_10 : w17.cell? ⟨gb101, 10, none⟩ = some (.int .i64 a0_10) := (blk_cell BK101.out 10).trans rfl; have hcz20_11 : w17.cell? ⟨gb101, 11, none⟩ = some (.int .i64 a0_11) := (blk_cell BK101.out 11).trans rfl; have hcz20_12 : w17.cell? ⟨gb101, 12, none⟩ = some (.int .i64 a0_12) := (blk_cell BK101.out 12).trans rfl; have hcz20_13 : w17.cell? ⟨gb101, 13, none⟩ = some (.int .i64 a0_13) := (blk_cell BK101.out 13).trans rfl; have hcz20_14 : w17.cell? ⟨gb101, 14, none⟩ = some (.int .i64 a0_14) := (blk_cell BK101.out 14).trans rfl; have hcz20_15 : w17.cell? ⟨gb101, 15, none⟩ = some (.int .i64 a0_15) := (blk_cell BK101.out 15).trans rfl; have hcz20_16 : w17.cell? ⟨gb101, 16, none⟩ = some (.int .i64 a0_16) := (blk_cell BK101.out 16).trans rfl; have hcz20_17 : w17.cell? ⟨gb101, 17, none⟩ = some (.int .i64 a0_17) := (blk_cell BK101.out 17).trans rfl; have hcz20_18 : w17.cell? ⟨gb101, 18, none⟩ = some (.int .i64 a0_18) := (blk_cell BK101.out 18).trans rfl; have hcz20_19 : w17.cell? ⟨gb101, 19, none⟩ = some (.int .i64 a0_19) := (blk_cell BK101.out 19).trans rfl; have hcz20_20 : w17.cell? ⟨gb101, 20, none⟩ = some (.int .i64 a0_20) := (blk_cell BK101.out 20).trans rfl; have hcz20_21 : w17.cell? ⟨gb101, 21, none⟩ = some (.int .i64 a0_21) := (blk_cell BK101.out 21).trans rfl; have hfz20_0 := blk_frozen BK101.out 0; have hfz20_1 := blk_frozen BK101.out 1; have hfz20_2 := blk_frozen BK101.out 2; have hfz20_3 := blk_frozen BK101.out 3; have hfz20_4 := blk_frozen BK101.out 4; have hfz20_5 := blk_frozen BK101.out 5; have hfz20_6 := blk_frozen BK101.out 6; have hfz20_7 := blk_frozen BK101.out 7; have hfz20_8 := blk_frozen BK101.out 8; have hfz20_9 := blk_frozen BK101.out 9; have hfz20_10 := blk_frozen BK101.out 10; have hfz20_11 := blk_frozen BK101.out 11; have hfz20_12 := blk_frozen BK101.out 12; have hfz20_13 := blk_frozen BK101.out 13; have hfz20_14 := blk_frozen BK101.out 14; have hfz20_15 := blk_frozen BK101.out 15; have hfz20_16 := blk_frozen BK101.out 16; have hfz20_17 := blk_frozen BK101.out 17; have hfz20_18 := blk_frozen BK101.out 18; have hfz20_19 := blk_frozen BK101.out 19; have hfz20_20 := blk_frozen BK101.out 20; have hfz20_21 := blk_frozen BK101.out 21) | (go_at_call 10; (with_reducible refine (drachmref04_Spec_Worth.calls k a0_11 a0_12 a0_13 a0_14 a0_15 a0_16 a0_17 a0_18 a0_19 a0_20 a0_21 t115 t116 t117 t118 t119 t120 t121 t122 t123 t124 t125 _ A4.out).mono ?_); rintro e w21 ⟨rfl, hb⟩; replace BK101 := kb BK101 hb; replace BK114 := Aside0.mk (blk_below (kp (p11_10 (kp (p11_9 (kp (p11_8 (kp (p11_7 (kp (p11_6 (kp (p11_5 (kp (p11_4 (kp (p11_3 (kp (p11_2 (kp (p11_1 (kp (p11_0 (kp BK114.out))))))))))))))))))))))) hb); replace HB := sb HB hb; (try clear hb); (try clear hb2); (try clear hk); (try clear hi)) | ((with_reducible refine gate_dst (N := 5) rfl ?_); (try (refine gate_guard (by rfl) ?_; dsimp only)); refine box_event ?hg (N := 5) ?hd (cs := #[.int .i64 0, .int .i64 0, .int .i64 0, .int .i64 0, .int .i64 0, .int .i64 0, .int .i64 0, .int .i64 0, .int .i64 0, .int .i64 0, .int .i64 0]) (t := 31) ?hr ?_; (case hd => rfl); (case hg => rfl); (case hr => first | (go_simp; done) | (go_simp; rfl)); intro gb126 hg w22 hbox hb; have n0_ := kb BK101 hb; have n1_ := kb BK114 hb; have n2_ := sb HB hb; have n3_ := Aside0.mk (hbox); have n4_ := Aside0.mk ((by rw [hg]; exact (below_size (bl HB.out)) : w.heap.size ≤ gb126)); have n5_ := Aside0.mk ((by rw [hg]; exact (below_size (bl HB.out)) : w.heap.size ≤ gb126)); have n6_ := Aside0.mk ((by rw [hg]; exact Nat.ne_of_lt (blk_lt (kp BK101.out)) : gb101 ≠ gb126)); have n7_ := Aside0.mk ((by rw [hg]; exact Nat.ne_of_gt (blk_lt (kp BK101.out)) : gb126 ≠ gb101)); have n8_ := Aside0.mk ((by rw [hg]; exact Nat.ne_of_lt (blk_lt (kp BK114.out)) : gb114 ≠ gb126)); have n9_ := Aside0.mk ((by rw [hg]; exact Nat.ne_of_gt (blk_lt (kp BK114.out)) : gb126 ≠ gb114)); clear BK101; clear BK114; clear HB; have BK101 := n0_; have BK114 := n1_; have HB := n2_; have BK126 := n3_; have GW126 := n4_; have GE126 := n5_; have NB101_126 := n6_; have NB126_101 := n7_; have NB114_126 := n8_; have NB126_114 := n9_; clear n0_ n1_ n2_ n3_ n4_ n5_ n6_ n7_ n8_ n9_; clear hb hbox hg; have hnb23 := NB126_101.out; have hnc23 := NB101_126.out; have hnb24 := NB126_114.out; have hnc24 := NB114_126.out; obtain ⟨hcz25_0, hcz25_1, hcz25_2, hcz25_3, hcz25_4, hcz25_5, hcz25_6, hcz25_7, hcz25_8, hcz25_9, hcz25_10⟩ := hc11 BK126.out; obtain ⟨hfz25_0, hfz25_1, hfz25_2, hfz25_3, hfz25_4, hfz25_5, hfz25_6, hfz25_7, hfz25_8, hfz25_9, hfz25_10⟩ := hf11 BK126.out; obtain ⟨hcz26_0, hcz26_1, hcz26_2, hcz26_3, hcz26_4, hcz26_5, hcz26_6, hcz26_7, hcz26_8, hcz26_9, hcz26_10⟩ := hc11 BK114.out; obtain ⟨hfz26_0, hfz26_1, hfz26_2, hfz26_3, hfz26_4, hfz26_5, hfz26_6, hfz26_7, hfz26_8, hfz26_9, hfz26_10⟩ := hf11 BK114.out) | (go_at_call 11; (with_reducible refine (worth_Text.calls k t103 t104 t105 t106 t107 t108 t109 t110 t111 t112 t113 t127 _ (Glob.use hG (by decide) (bl HB.out)) A5.out).mono ?_); rintro e w27 ⟨rfl, hb⟩; replace BK101 := kb BK101 hb; replace BK114 := kb BK114 hb; replace BK126 := Aside0.mk (blk_below (kp (p11_10 (kp (p11_9 (kp (p11_8 (kp (p11_7 (kp (p11_6 (kp (p11_5 (kp (p11_4 (kp (p11_3 (kp (p11_2 (kp (p11_1 (kp (p11_0 (kp BK126.out))))))))))))))))))))))) hb); replace HB := sb HB hb; (try clear hb); (try clear hb2); (try clear hk); (try clear hi); obtain ⟨hcz28_0, hcz28_1, hcz28_2, hcz28_3, hcz28_4, hcz28_5, hcz28_6, hcz28_7, hcz28_8, hcz28_9, hcz28_10⟩ := hc11 BK114.out; obtain ⟨hfz28_0, hfz28_1, hfz28_2, hfz28_3, hfz28_4, hfz28_5, hfz28_6, hfz28_7, hfz28_8, hfz28_9, hfz28_10⟩ := hf11 BK114.out) | (go_at_call 12; (with_reducible refine (drachmref02_Text.calls k t103 t104 t105 t128 _ A6.out).mono ?_); rintro e w29 ⟨rfl, hb⟩; replace BK101 := kb BK101 hb; replace BK114 := kb BK114 hb; replace BK126 := kb BK126 hb; replace HB := sb HB hb; (try clear hb); (try clear hb2); (try clear hk); (try clear hi)))
      (try (rw [drewN_self w29]; generalize hq_ : World.drewN w29 _ = w29; replace BK101 := Aside0.mk (kq hq_ BK101.out); replace BK114 := Aside0.mk (kq hq_ BK114.out); replace BK126 := Aside0.mk (kq hq_ BK126.out); replace HB := Aside0.mk (bq hq_ HB.out); clear hq_))
      replace BK101 := Aside0.mk (blk_drew BK101.out)
      replace BK114 := Aside0.mk (blk_drew BK114.out)
      replace BK126 := Aside0.mk (blk_drew BK126.out)
      replace HB := Aside0.mk (below_drew1 HB.out)
      refine start_ (n := 27) (S := fun w' => w'.cell? ⟨gb126, 0, none⟩ = some (.int .i64 t115) ∧ w'.cell? ⟨gb126, 1, none⟩ = some (.int .i64 t116) ∧ w'.cell? ⟨gb126, 2, none⟩ = some (.int .i64 t117) ∧ w'.cell? ⟨gb126, 3, none⟩ = some (.int .i64 t118) ∧ w'.cell? ⟨gb126, 4, none⟩ = some (.int .i64 t119) ∧ w'.cell? ⟨gb126, 5, none⟩ = some (.int .i64 t120) ∧ w'.cell? ⟨gb126, 6, none⟩ = some (.int .i64 t121) ∧ w'.cell? ⟨gb126, 7, none⟩ = some (.int .i64 t122) ∧ w'.cell? ⟨gb126, 8, none⟩ = some (.int .i64 t123) ∧ w'.cell? ⟨gb126, 9, none⟩ = some (.int .i64 t124) ∧ w'.cell? ⟨gb126, 10, none⟩ = some (.int .i64 t125) ∧ w'.cell? ⟨gb114, 0, none⟩ = some (.int .i64 t103) ∧ w'.cell? ⟨gb114, 1, none⟩ = some (.int .i64 t104) ∧ w'.cell? ⟨gb114, 2, none⟩ = some (.int .i64 t105) ∧ w'.cell? ⟨gb114, 3, none⟩ = some (.int .i64 t106) ∧ w'.cell? ⟨gb114, 4, none⟩ = some (.int .i64 t107) ∧ w'.cell? ⟨gb114, 5, none⟩ = some (.int .i64 t108) ∧ w'.cell? ⟨gb114, 6, none⟩ = some (.int .i64 t109) ∧ w'.cell? ⟨gb114, 7, none⟩ = some (.int .i64 t110) ∧ w'.cell? ⟨gb114, 8, none⟩ = some (.int .i64 t111) ∧ w'.cell? ⟨gb114, 9, none⟩ = some (.int .i64 t112) ∧ w'.cell? ⟨gb114, 10, none⟩ = some (.int .i64 t113)) (ds := []) #[false, false, false, false, false, false, false, false, false, false, false, false, false, false, false, false, false, false, false, false, false, false, false, false, false, false, false] (by kernel_rfl) rfl rfl ⟨(blk_cell BK126.out 0).trans rfl, (blk_cell BK126.out 1).trans rfl, (blk_cell BK126.out 2).trans rfl, (blk_cell BK126.out 3).trans rfl, (blk_cell BK126.out 4).trans rfl, (blk_cell BK126.out 5).trans rfl, (blk_cell BK126.out 6).trans rfl, (blk_cell BK126.out 7).trans rfl, (blk_cell BK126.out 8).trans rfl, (blk_cell BK126.out 9).trans rfl, (blk_cell BK126.out 10).trans rfl, (blk_cell BK114.out 0).trans rfl, (blk_cell BK114.out 1).trans rfl, (blk_cell BK114.out 2).trans rfl, (blk_cell BK114.out 3).trans rfl, (blk_cell BK114.out 4).trans rfl, (blk_cell BK114.out 5).trans rfl, (blk_cell BK114.out 6).trans rfl, (blk_cell BK114.out 7).trans rfl, (blk_cell BK114.out 8).trans rfl, (blk_cell BK114.out 9).trans rfl, (blk_cell BK114.out 10).trans rfl⟩ (fun hHeld => ?_); refine with_tabW drachmlaw04_WorthTexts.tab6 drachmlaw04_WorthTexts.bits6 (fun HT_ HW_ => ?_)
      generalize w29.drew = w30 at BK101 BK114 BK126 HB hHeld ⊢
      refine pure_ (i := 0) (N := some 20) (v := ?_) (a' := ?_) #[true, false, false, false, false, false, false, false, false, false, false, false, false, false, false, false, false, false, false, false, false, false, false, false, false, false, false] rfl rfl (any_of HT_.out (by kernel_rfl)) (fun _ _ _ h => h) (Or.inl ⟨by rfl, ?_⟩) ?_ ?_
      rotate_left
      ·intro w'
       go_simp
       first | with_reducible rfl | (rw [if_neg (by simp only [lit_size, List.length_cons, List.length_nil, ByteArray.size_extract, ByteArray.size_append, eq_iff_iff, iff_true, iff_false] at *; omega)])
      rotate_left
      ·simp only [Act.put, List.setIfInBounds_toArray, List.set_cons_zero, List.set_cons_succ, i64_w, i32_w]
       rfl
      refine pure_ (i := 1) (N := some 21) (v := ?_) (a' := ?_) #[true, true, false, false, false, false, false, false, false, false, false, false, false, false, false, false, false, false, false, false, false, false, false, false, false, false, false] rfl rfl (any_of HT_.out (by kernel_rfl)) (fun _ _ _ h => h) (Or.inl ⟨by rfl, ?_⟩) ?_ ?_
      rotate_left
      ·intro w'
       go_simp
       first | with_reducible rfl | (rw [if_neg (by simp only [lit_size, List.length_cons, List.length_nil, ByteArray.size_extract, ByteArray.size_append, eq_iff_iff, iff_true, iff_false] at *; omega)])
      rotate_left
      ·simp only [Act.put, List.setIfInBounds_toArray, List.set_cons_zero, List.set_cons_succ, i64_w, i32_w]
       rfl
      refine pure_ (i := 2) (N := some 22) (v := ?_) (a' := ?_) #[true, true, true, false, false, false, false, false, false, false, false, false, false, false, false, false, false, false, false, false, false, false, false, false, false, false, false] rfl rfl (any_of HT_.out (by kernel_rfl)) (fun _ _ _ h => h) (Or.inl ⟨by rfl, ?_⟩) ?_ ?_
      rotate_left
      ·intro w'
       go_simp
       first | with_reducible rfl | (rw [if_neg (by simp only [lit_size, List.length_cons, List.length_nil, ByteArray.size_extract, ByteArray.size_append, eq_iff_iff, iff_true, iff_false] at *; omega)])
      rotate_left
      ·simp only [Act.put, List.setIfInBounds_toArray, List.set_cons_zero, List.set_cons_succ, i64_w, i32_w]
       rfl
      refine take_ (i := 3) (N := some 23) (v := ?_) (a' := ?_) #[true, true, true, true, false, false, false, false, false, false, false, false, false, false, false, false, false, false, false, false, false, false, false, false, false, false, false] rfl rfl (take_ofW HT_.out HW_.out (by kernel_rfl)) (fun _ _ _ h => h) (Or.inl ⟨by rfl, ?_⟩) hHeld ?_ ?_
      rotate_left
      ·rintro w' ⟨s0, s1, s2, s3, s4, s5, s6, s7, s8, s9, s10, s11, s12, s13, s14, s15, s16, s17, s18, s19, s20, s21⟩
       go_simp
       first | with_reducible rfl | (rw [if_neg (by simp only [lit_size, List.length_cons, List.length_nil, ByteArray.size_extract, ByteArray.size_append, eq_iff_iff, iff_true, iff_false] at *; omega)])
      rotate_left
      ·simp only [Act.put, List.setIfInBounds_toArray, List.set_cons_zero, List.set_cons_succ, i64_w, i32_w]
       rfl
      refine take_ (i := 6) (N := some 26) (v := ?_) (a' := ?_) #[true, true, true, true, false, false, true, false, false, false, false, false, false, false, false, false, false, false, false, false, false, false, false, false, false, false, false] rfl rfl (take_ofW HT_.out HW_.out (by kernel_rfl)) (fun _ _ _ h => h) (Or.inl ⟨by rfl, ?_⟩) hHeld ?_ ?_
      rotate_left
      ·rintro w' ⟨s0, s1, s2, s3, s4, s5, s6, s7, s8, s9, s10, s11, s12, s13, s14, s15, s16, s17, s18, s19, s20, s21⟩
       go_simp
       first | with_reducible rfl | (rw [if_neg (by simp only [lit_size, List.length_cons, List.length_nil, ByteArray.size_extract, ByteArray.size_append, eq_iff_iff, iff_true, iff_false] at *; omega)])
      rotate_left
      ·simp only [Act.put, List.setIfInBounds_toArray, List.set_cons_zero, List.set_cons_succ, i64_w, i32_w]
       rfl
      refine take_ (i := 7) (N := some 27) (v := ?_) (a' := ?_) #[true, true, true, true, false, false, true, true, false, false, false, false, false, false, false, false, false, false, false, false, false, false, false, false, false, false, false] rfl rfl (take_ofW HT_.out HW_.out (by kernel_rfl)) (fun _ _ _ h => h) (Or.inl ⟨by rfl, ?_⟩) hHeld ?_ ?_
      rotate_left
      ·rintro w' ⟨s0, s1, s2, s3, s4, s5, s6, s7, s8, s9, s10, s11, s12, s13, s14, s15, s16, s17, s18, s19, s20, s21⟩
       go_simp
       first | with_reducible rfl | (rw [if_neg (by simp only [lit_size, List.length_cons, List.length_nil, ByteArray.size_extract, ByteArray.size_append, eq_iff_iff, iff_true, iff_false] at *; omega)])
      rotate_left
      ·simp only [Act.put, List.setIfInBounds_toArray, List.set_cons_zero, List.set_cons_succ, i64_w, i32_w]
       rfl
      refine pure_ (i := 8) (N := some 28) (v := ?_) (a' := ?_) #[true, true, true, true, false, false, true, true, true, false, false, false, false, false, false, false, false, false, false, false, false, false, false, false, false, false, false] rfl rfl (any_of HT_.out (by kernel_rfl)) (fun _ _ _ h => h) (Or.inl ⟨by rfl, ?_⟩) ?_ ?_
      rotate_left
      ·intro w'
       go_simp
       first | with_reducible rfl | (rw [if_neg (by simp only [lit_size, List.length_cons, List.length_nil, ByteArray.size_extract, ByteArray.size_append, eq_iff_iff, iff_true, iff_false] at *; omega)])
      rotate_left
      ·simp only [Act.put, List.setIfInBounds_toArray, List.set_cons_zero, List.set_cons_succ, i64_w, i32_w]
       rfl
      refine one_ (i := 4) (N := some 24) #[true, true, true, true, true, false, true, true, true, false, false, false, false, false, false, false, false, false, false, false, false, false, false, false, false, false, false] rfl rfl (one_of HT_.out (by kernel_rfl)) (by decide) (fun K hK => ?_)
      refine goes_ Tryd.func11 (by kernel_rfl) rfl #[.agg #[.int .i64 t115, .int .i64 t116, .int .i64 t117, .int .i64 t118, .int .i64 t119, .int .i64 t120, .int .i64 t121, .int .i64 t122, .int .i64 t123, .int .i64 t124, .int .i64 t125]] (by rfl) rfl rfl (by (try simp only [List.map_toArray, List.map_cons, List.map_nil]); first | done | rfl | (simp only [List.length_drop, List.length_take]; rfl)) ?_
      with_reducible refine (worth_Text.calls k t115 t116 t117 t118 t119 t120 t121 t122 t123 t124 t125 t129 _ (Glob.use hG (by decide) (by repeat (first | (with_reducible first | exact HB.out | exact Below.refl _ _ | apply below_alloc | apply pw_below_drewN | apply below_drew1) | exact HB.out | exact Below.refl _ _))) A8.out).mono ?_
      rintro e w31 ⟨rfl, hb⟩
      refine ⟨_, rfl, ?_⟩
      replace BK101 := kb BK101 hb
      replace BK114 := kb BK114 hb
      replace BK126 := kb BK126 hb
      replace HB := sb HB hb
      (try clear hb)
      (try clear hb2)
      (try clear hk)
      (try clear hi)
      refine hK.out _ _ ⟨(blk_cell BK126.out 0).trans rfl, (blk_cell BK126.out 1).trans rfl, (blk_cell BK126.out 2).trans rfl, (blk_cell BK126.out 3).trans rfl, (blk_cell BK126.out 4).trans rfl, (blk_cell BK126.out 5).trans rfl, (blk_cell BK126.out 6).trans rfl, (blk_cell BK126.out 7).trans rfl, (blk_cell BK126.out 8).trans rfl, (blk_cell BK126.out 9).trans rfl, (blk_cell BK126.out 10).trans rfl, (blk_cell BK114.out 0).trans rfl, (blk_cell BK114.out 1).trans rfl, (blk_cell BK114.out 2).trans rfl, (blk_cell BK114.out 3).trans rfl, (blk_cell BK114.out 4).trans rfl, (blk_cell BK114.out 5).trans rfl, (blk_cell BK114.out 6).trans rfl, (blk_cell BK114.out 7).trans rfl, (blk_cell BK114.out 8).trans rfl, (blk_cell BK114.out 9).trans rfl, (blk_cell BK114.out 10).trans rfl⟩ (fun hHeld => ?_)
      clear hK K
      refine norm_ (a' := ?_) ?_ ?_
      rotate_left
      ·show Act.put _ (some 24) _ = _
       simp only [Act.put, List.setIfInBounds_toArray, List.set_cons_zero, List.set_cons_succ, i64_w, i32_w]
       rfl
      refine pure_ (i := 5) (N := some 25) (v := ?_) (a' := ?_) #[true, true, true, true, true, true, true, true, true, false, false, false, false, false, false, false, false, false, false, false, false, false, false, false, false, false, false] rfl rfl (any_of HT_.out (by kernel_rfl)) (fun _ _ _ h => h) (Or.inl ⟨by rfl, ?_⟩) ?_ ?_
      rotate_left
      ·intro w'
       go_simp
       first | with_reducible rfl | (rw [if_neg (by simp only [lit_size, List.length_cons, List.length_nil, ByteArray.size_extract, ByteArray.size_append, eq_iff_iff, iff_true, iff_false] at *; omega)])
      rotate_left
      ·simp only [Act.put, List.setIfInBounds_toArray, List.set_cons_zero, List.set_cons_succ, i64_w, i32_w]
       rfl
      refine pure_ (i := 9) (N := some 29) (v := ?_) (a' := ?_) #[true, true, true, true, true, true, true, true, true, true, false, false, false, false, false, false, false, false, false, false, false, false, false, false, false, false, false] rfl rfl (any_of HT_.out (by kernel_rfl)) (fun _ _ _ h => h) (Or.inl ⟨by rfl, ?_⟩) ?_ ?_
      rotate_left
      ·intro w'
       go_simp
       first | with_reducible rfl | (rw [if_neg (by simp only [lit_size, List.length_cons, List.length_nil, ByteArray.size_extract, ByteArray.size_append, eq_iff_iff, iff_true, iff_false] at *; omega)])
      rotate_left
      ·simp only [Act.put, List.setIfInBounds_toArray, List.set_cons_zero, List.set_cons_succ, i64_w, i32_w]
       rfl
      refine pure_ (i := 10) (N := some 30) (v := ?_) (a' := ?_) #[true, true, true, true, true, true, true, true, true, true, true, false, false, false, false, false, false, false, false, false, false, false, false, false, false, false, false] rfl rfl (any_of HT_.out (by kernel_rfl)) (fun _ _ _ h => h) (Or.inl ⟨by rfl, ?_⟩) ?_ ?_
      rotate_left
      ·intro w'
       go_simp
       first | with_reducible rfl | (rw [if_neg (by simp only [lit_size, List.length_cons, List.length_nil, ByteArray.size_extract, ByteArray.size_append, eq_iff_iff, iff_true, iff_false] at *; omega)])
      rotate_left
      ·simp only [Act.put, List.setIfInBounds_toArray, List.set_cons_zero, List.set_cons_succ, i64_w, i32_w]
       rfl
      refine pure_ (i := 11) (N := some 31) (v := ?_) (a' := ?_) #[true, true, true, true, true, true, true, true, true, true, true, true, false, false, false, false, false, false, false, false, false, false, false, false, false, false, false] rfl rfl (any_of HT_.out (by kernel_rfl)) (fun _ _ _ h => h) (Or.inl ⟨by rfl, ?_⟩) ?_ ?_
      rotate_left
      ·intro w'
       go_simp
       first | with_reducible rfl | (rw [if_neg (by simp only [lit_size, List.length_cons, List.length_nil, ByteArray.size_extract, ByteArray.size_append, eq_iff_iff, iff_true, iff_false] at *; omega)])
      rotate_left
      ·simp only [Act.put, List.setIfInBounds_toArray, List.set_cons_zero, List.set_cons_succ, i64_w, i32_w]
       rfl
      refine pure_ (i := 12) (N := some 32) (v := ?_) (a' := ?_) #[true, true, true, true, true, true, true, true, true, true, true, true, true, false, false, false, false, false, false, false, false, false, false, false, false, false, false] rfl rfl (any_of HT_.out (by kernel_rfl)) (fun _ _ _ h => h) (Or.inl ⟨by rfl, ?_⟩) ?_ ?_
      rotate_left
      ·intro w'
       go_simp
       first | with_reducible rfl | (rw [if_neg (by simp only [lit_size, List.length_cons, List.length_nil, ByteArray.size_extract, ByteArray.size_append, eq_iff_iff, iff_true, iff_false] at *; omega)])
      rotate_left
      ·simp only [Act.put, List.setIfInBounds_toArray, List.set_cons_zero, List.set_cons_succ, i64_w, i32_w]
       rfl
      refine pure_ (i := 13) (N := some 33) (v := ?_) (a' := ?_) #[true, true, true, true, true, true, true, true, true, true, true, true, true, true, false, false, false, false, false, false, false, false, false, false, false, false, false] rfl rfl (any_of HT_.out (by kernel_rfl)) (fun _ _ _ h => h) (Or.inl ⟨by rfl, ?_⟩) ?_ ?_
      rotate_left
      ·intro w'
       go_simp
       first | with_reducible rfl | (rw [if_neg (by simp only [lit_size, List.length_cons, List.length_nil, ByteArray.size_extract, ByteArray.size_append, eq_iff_iff, iff_true, iff_false] at *; omega)])
      rotate_left
      ·simp only [Act.put, List.setIfInBounds_toArray, List.set_cons_zero, List.set_cons_succ, i64_w, i32_w]
       rfl
      refine pure_ (i := 14) (N := some 34) (v := ?_) (a' := ?_) #[true, true, true, true, true, true, true, true, true, true, true, true, true, true, true, false, false, false, false, false, false, false, false, false, false, false, false] rfl rfl (any_of HT_.out (by kernel_rfl)) (fun _ _ _ h => h) (Or.inl ⟨by rfl, ?_⟩) ?_ ?_
      rotate_left
      ·intro w'
       go_simp
       first | with_reducible rfl | (rw [if_neg (by simp only [lit_size, List.length_cons, List.length_nil, ByteArray.size_extract, ByteArray.size_append, eq_iff_iff, iff_true, iff_false] at *; omega)])
      rotate_left
      ·simp only [Act.put, List.setIfInBounds_toArray, List.set_cons_zero, List.set_cons_succ, i64_w, i32_w]
       rfl
      refine pure_ (i := 15) (N := some 35) (v := ?_) (a' := ?_) #[true, true, true, true, true, true, true, true, true, true, true, true, true, true, true, true, false, false, false, false, false, false, false, false, false, false, false] rfl rfl (any_of HT_.out (by kernel_rfl)) (fun _ _ _ h => h) (Or.inl ⟨by rfl, ?_⟩) ?_ ?_
      rotate_left
      ·intro w'
       go_simp
       first | with_reducible rfl | (rw [if_neg (by simp only [lit_size, List.length_cons, List.length_nil, ByteArray.size_extract, ByteArray.size_append, eq_iff_iff, iff_true, iff_false] at *; omega)])
      rotate_left
      ·simp only [Act.put, List.setIfInBounds_toArray, List.set_cons_zero, List.set_cons_succ, i64_w, i32_w]
       rfl
      refine pure_ (i := 16) (N := some 36) (v := ?_) (a' := ?_) #[true, true, true, true, true, true, true, true, true, true, true, true, true, true, true, true, true, false, false, false, false, false, false, false, false, false, false] rfl rfl (any_of HT_.out (by kernel_rfl)) (fun _ _ _ h => h) (Or.inl ⟨by rfl, ?_⟩) ?_ ?_
      rotate_left
      ·intro w'
       go_simp
       first | with_reducible rfl | (rw [if_neg (by simp only [lit_size, List.length_cons, List.length_nil, ByteArray.size_extract, ByteArray.size_append, eq_iff_iff, iff_true, iff_false] at *; omega)])
      rotate_left
      ·simp only [Act.put, List.setIfInBounds_toArray, List.set_cons_zero, List.set_cons_succ, i64_w, i32_w]
       rfl
      refine pure_ (i := 17) (N := some 37) (v := ?_) (a' := ?_) #[true, true, true, true, true, true, true, true, true, true, true, true, true, true, true, true, true, true, false, false, false, false, false, false, false, false, false] rfl rfl (any_of HT_.out (by kernel_rfl)) (fun _ _ _ h => h) (Or.inl ⟨by rfl, ?_⟩) ?_ ?_
      rotate_left
      ·intro w'
       go_simp
       first | with_reducible rfl | (rw [if_neg (by simp only [lit_size, List.length_cons, List.length_nil, ByteArray.size_extract, ByteArray.size_append, eq_iff_iff, iff_true, iff_false] at *; omega)])
      rotate_left
      ·simp only [Act.put, List.setIfInBounds_toArray, List.set_cons_zero, List.set_cons_succ, i64_w, i32_w]
       rfl
      refine pure_ (i := 18) (N := some 38) (v := ?_) (a' := ?_) #[true, true, true, true, true, true, true, true, true, true, true, true, true, true, true, true, true, true, true, false, false, false, false, false, false, false, false] rfl rfl (any_of HT_.out (by kernel_rfl)) (fun _ _ _ h => h) (Or.inl ⟨by rfl, ?_⟩) ?_ ?_
      rotate_left
      ·intro w'
       go_simp
       first | with_reducible rfl | (rw [if_neg (by simp only [lit_size, List.length_cons, List.length_nil, ByteArray.size_extract, ByteArray.size_append, eq_iff_iff, iff_true, iff_false] at *; omega)])
      rotate_left
      ·simp only [Act.put, List.setIfInBounds_toArray, List.set_cons_zero, List.set_cons_succ, i64_w, i32_w]
       rfl
      refine pure_ (i := 19) (N := some 39) (v := ?_) (a' := ?_) #[true, true, true, true, true, true, true, true, true, true, true, true, true, true, true, true, true, true, true, true, false, false, false, false, false, false, false] rfl rfl (any_of HT_.out (by kernel_rfl)) (fun _ _ _ h => h) (Or.inl ⟨by rfl, ?_⟩) ?_ ?_
      rotate_left
      ·intro w'
       go_simp
       first | with_reducible rfl | (rw [if_neg (by simp only [lit_size, List.length_cons, List.length_nil, ByteArray.size_extract, ByteArray.size_append, eq_iff_iff, iff_true, iff_false] at *; omega)])
      rotate_left
      ·simp only [Act.put, List.setIfInBounds_toArray, List.set_cons_zero, List.set_cons_succ, i64_w, i32_w]
       rfl
      refine pure_ (i := 20) (N := some 40) (v := ?_) (a' := ?_) #[true, true, true, true, true, true, true, true, true, true, true, true, true, true, true, true, true, true, true, true, true, false, false, false, false, false, false] rfl rfl (any_of HT_.out (by kernel_rfl)) (fun _ _ _ h => h) (Or.inl ⟨by rfl, ?_⟩) ?_ ?_
      rotate_left
      ·intro w'
       go_simp
       first | with_reducible rfl | (rw [if_neg (by simp only [lit_size, List.length_cons, List.length_nil, ByteArray.size_extract, ByteArray.size_append, eq_iff_iff, iff_true, iff_false] at *; omega)])
      rotate_left
      ·simp only [Act.put, List.setIfInBounds_toArray, List.set_cons_zero, List.set_cons_succ, i64_w, i32_w]
       rfl
      refine pure_ (i := 21) (N := some 41) (v := ?_) (a' := ?_) #[true, true, true, true, true, true, true, true, true, true, true, true, true, true, true, true, true, true, true, true, true, true, false, false, false, false, false] rfl rfl (any_of HT_.out (by kernel_rfl)) (fun _ _ _ h => h) (Or.inl ⟨by rfl, ?_⟩) ?_ ?_
      rotate_left
      ·intro w'
       go_simp
       first | with_reducible rfl | (rw [if_neg (by simp only [lit_size, List.length_cons, List.length_nil, ByteArray.size_extract, ByteArray.size_append, eq_iff_iff, iff_true, iff_false] at *; omega)])
      rotate_left
      ·simp only [Act.put, List.setIfInBounds_toArray, List.set_cons_zero, List.set_cons_succ, i64_w, i32_w]
       rfl
      refine pure_ (i := 22) (N := some 42) (v := ?_) (a' := ?_) #[true, true, true, true, true, true, true, true, true, true, true, true, true, true, true, true, true, true, true, true, true, true, true, false, false, false, false] rfl rfl (any_of HT_.out (by kernel_rfl)) (fun _ _ _ h => h) (Or.inl ⟨by rfl, ?_⟩) ?_ ?_
      rotate_left
      ·intro w'
       go_simp
       first | with_reducible rfl | (rw [if_neg (by simp only [lit_size, List.length_cons, List.length_nil, ByteArray.size_extract, ByteArray.size_append, eq_iff_iff, iff_true, iff_false] at *; omega)])
      rotate_left
      ·simp only [Act.put, List.setIfInBounds_toArray, List.set_cons_zero, List.set_cons_succ, i64_w, i32_w]
       rfl
      refine pure_ (i := 23) (N := some 43) (v := ?_) (a' := ?_) #[true, true, true, true, true, true, true, true, true, true, true, true, true, true, true, true, true, true, true, true, true, true, true, true, false, false, false] rfl rfl (any_of HT_.out (by kernel_rfl)) (fun _ _ _ h => h) (Or.inl ⟨by rfl, ?_⟩) ?_ ?_
      rotate_left
      ·intro w'
       go_simp
       first | with_reducible rfl | (rw [if_neg (by simp only [lit_size, List.length_cons, List.length_nil, ByteArray.size_extract, ByteArray.size_append, eq_iff_iff, iff_true, iff_false] at *; omega)])
      rotate_left
      ·simp only [Act.put, List.setIfInBounds_toArray, List.set_cons_zero, List.set_cons_succ, i64_w, i32_w]
       rfl
      refine pure_ (i := 24) (N := some 44) (v := ?_) (a' := ?_) #[true, true, true, true, true, true, true, true, true, true, true, true, true, true, true, true, true, true, true, true, true, true, true, true, true, false, false] rfl rfl (any_of HT_.out (by kernel_rfl)) (fun _ _ _ h => h) (Or.inl ⟨by rfl, ?_⟩) ?_ ?_
      rotate_left
      ·intro w'
       go_simp
       first | with_reducible rfl | (rw [if_neg (by simp only [lit_size, List.length_cons, List.length_nil, ByteArray.size_extract, ByteArray.size_append, eq_iff_iff, iff_true, iff_false] at *; omega)])
      rotate_left
      ·simp only [Act.put, List.setIfInBounds_toArray, List.set_cons_zero, List.set_cons_succ, i64_w, i32_w]
       rfl
      refine pure_ (i := 25) (N := some 45) (v := ?_) (a' := ?_) #[true, true, true, true, true, true, true, true, true, true, true, true, true, true, true, true, true, true, true, true, true, true, true, true, true, true, false] rfl rfl (any_of HT_.out (by kernel_rfl)) (fun _ _ _ h => h) (Or.inl ⟨by rfl, ?_⟩) ?_ ?_
      rotate_left
      ·intro w'
       go_simp
       first | with_reducible rfl | (rw [if_neg (by simp only [lit_size, List.length_cons, List.length_nil, ByteArray.size_extract, ByteArray.size_append, eq_iff_iff, iff_true, iff_false] at *; omega)])
      rotate_left
      ·simp only [Act.put, List.setIfInBounds_toArray, List.set_cons_zero, List.set_cons_succ, i64_w, i32_w]
       rfl
      refine pure_ (i := 26) (N := some 2) (v := ?_) (a' := ?_) #[true, true, true, true, true, true, true, true, true, true, true, true, true, true, true, true, true, true, true, true, true, true, true, true, true, true, true] rfl rfl (any_of HT_.out (by kernel_rfl)) (fun _ _ _ h => h) (Or.inl ⟨by rfl, ?_⟩) ?_ ?_
      rotate_left
      ·intro w'
       go_simp
       first | with_reducible rfl | (rw [if_neg (by simp only [lit_size, List.length_cons, List.length_nil, ByteArray.size_extract, ByteArray.size_append, eq_iff_iff, iff_true, iff_false] at *; omega)])
      rotate_left
      ·simp only [Act.put, List.setIfInBounds_toArray, List.set_cons_zero, List.set_cons_succ, i64_w, i32_w]
       rfl
      refine done_ (done_of HT_.out (by kernel_rfl)) ?_
      try go_wp2
      go_ret
      exact ⟨by first | rfl | (simp [errW_none, errW_some] <;> rfl) | (simp [*, errW_none, errW_some] <;> rfl), bl HB.out⟩
     ·rw [if_neg c12] at H
      exact absurd H (by simp)
    ·rw [if_neg c11] at H
     exact absurd H (by simp)
   ·rw [if_neg c10] at H
    exact absurd H (by simp)
  ·rw [if_neg c9] at H
   exact absurd H (by simp)
 ·replace c7 := Bool.eq_false_iff.mpr c7
  subst c7
  have H1 : (none) = some r := by rw [if_neg (show ¬ (false = true) by decide)] at H; exact H
  clear H
  have H := H1
  clear H1
  exact absurd H (by simp)

/-- THE ONE PURE STATEMENT of drachmlaw04_WorthTexts: yours. -/
def drachmlaw04_WorthTexts.Pure : Prop := ∀ (a0_0 : Int) (a0_1 : Int) (a0_2 : Int) (a0_3 : Int) (a0_4 : Int) (a0_5 : Int) (a0_6 : Int) (a0_7 : Int) (a0_8 : Int) (a0_9 : Int) (a0_10 : Int) (a0_11 : Int) (a0_12 : Int) (a0_13 : Int) (a0_14 : Int) (a0_15 : Int) (a0_16 : Int) (a0_17 : Int) (a0_18 : Int) (a0_19 : Int) (a0_20 : Int) (a0_21 : Int), (Lit.int .i64 a0_0).wf = true → (Lit.int .i64 a0_1).wf = true → (Lit.int .i64 a0_2).wf = true → (Lit.int .i64 a0_3).wf = true → (Lit.int .i64 a0_4).wf = true → (Lit.int .i64 a0_5).wf = true → (Lit.int .i64 a0_6).wf = true → (Lit.int .i64 a0_7).wf = true → (Lit.int .i64 a0_8).wf = true → (Lit.int .i64 a0_9).wf = true → (Lit.int .i64 a0_10).wf = true → (Lit.int .i64 a0_11).wf = true → (Lit.int .i64 a0_12).wf = true → (Lit.int .i64 a0_13).wf = true → (Lit.int .i64 a0_14).wf = true → (Lit.int .i64 a0_15).wf = true → (Lit.int .i64 a0_16).wf = true → (Lit.int .i64 a0_17).wf = true → (Lit.int .i64 a0_18).wf = true → (Lit.int .i64 a0_19).wf = true → (Lit.int .i64 a0_20).wf = true → (Lit.int .i64 a0_21).wf = true → ∃ k, drachmlaw04_WorthTexts.f k a0_0 a0_1 a0_2 a0_3 a0_4 a0_5 a0_6 a0_7 a0_8 a0_9 a0_10 a0_11 a0_12 a0_13 a0_14 a0_15 a0_16 a0_17 a0_18 a0_19 a0_20 a0_21 = some true
theorem drachmlaw04_WorthTexts.walk (P : drachmlaw04_WorthTexts.Pure) (a0_0 : Int) (a0_1 : Int) (a0_2 : Int) (a0_3 : Int) (a0_4 : Int) (a0_5 : Int) (a0_6 : Int) (a0_7 : Int) (a0_8 : Int) (a0_9 : Int) (a0_10 : Int) (a0_11 : Int) (a0_12 : Int) (a0_13 : Int) (a0_14 : Int) (a0_15 : Int) (a0_16 : Int) (a0_17 : Int) (a0_18 : Int) (a0_19 : Int) (a0_20 : Int) (a0_21 : Int) (w : World) (hG : Glob [1, 2] w) (w0_0 : (Lit.int .i64 a0_0).wf = true) (w0_1 : (Lit.int .i64 a0_1).wf = true) (w0_2 : (Lit.int .i64 a0_2).wf = true) (w0_3 : (Lit.int .i64 a0_3).wf = true) (w0_4 : (Lit.int .i64 a0_4).wf = true) (w0_5 : (Lit.int .i64 a0_5).wf = true) (w0_6 : (Lit.int .i64 a0_6).wf = true) (w0_7 : (Lit.int .i64 a0_7).wf = true) (w0_8 : (Lit.int .i64 a0_8).wf = true) (w0_9 : (Lit.int .i64 a0_9).wf = true) (w0_10 : (Lit.int .i64 a0_10).wf = true) (w0_11 : (Lit.int .i64 a0_11).wf = true) (w0_12 : (Lit.int .i64 a0_12).wf = true) (w0_13 : (Lit.int .i64 a0_13).wf = true) (w0_14 : (Lit.int .i64 a0_14).wf = true) (w0_15 : (Lit.int .i64 a0_15).wf = true) (w0_16 : (Lit.int .i64 a0_16).wf = true) (w0_17 : (Lit.int .i64 a0_17).wf = true) (w0_18 : (Lit.int .i64 a0_18).wf = true) (w0_19 : (Lit.int .i64 a0_19).wf = true) (w0_20 : (Lit.int .i64 a0_20).wf = true) (w0_21 : (Lit.int .i64 a0_21).wf = true) :
  Calls Tryd.prog 3 #[.agg #[.int .i64 a0_0, .int .i64 a0_1, .int .i64 a0_2, .int .i64 a0_3, .int .i64 a0_4, .int .i64 a0_5, .int .i64 a0_6, .int .i64 a0_7, .int .i64 a0_8, .int .i64 a0_9, .int .i64 a0_10, .int .i64 a0_11, .int .i64 a0_12, .int .i64 a0_13, .int .i64 a0_14, .int .i64 a0_15, .int .i64 a0_16, .int .i64 a0_17, .int .i64 a0_18, .int .i64 a0_19, .int .i64 a0_20, .int .i64 a0_21]] w fun e w' => e = .returned (.bool true) ∧ Below w.heap.size w w' := by
 obtain ⟨k, h⟩ := P a0_0 a0_1 a0_2 a0_3 a0_4 a0_5 a0_6 a0_7 a0_8 a0_9 a0_10 a0_11 a0_12 a0_13 a0_14 a0_15 a0_16 a0_17 a0_18 a0_19 a0_20 a0_21 w0_0 w0_1 w0_2 w0_3 w0_4 w0_5 w0_6 w0_7 w0_8 w0_9 w0_10 w0_11 w0_12 w0_13 w0_14 w0_15 w0_16 w0_17 w0_18 w0_19 w0_20 w0_21
 refine (drachmlaw04_WorthTexts.calls k a0_0 a0_1 a0_2 a0_3 a0_4 a0_5 a0_6 a0_7 a0_8 a0_9 a0_10 a0_11 a0_12 a0_13 a0_14 a0_15 a0_16 a0_17 a0_18 a0_19 a0_20 a0_21 true w hG h).mono ?_
 rintro e w' ⟨rfl, hd⟩
 exact ⟨rfl, hd⟩

end Go.Proofs.YthfibffgmoblaaaDoor.PWorthTexts

