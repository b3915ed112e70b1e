/- Printed by a program of this session (wip/tools/prt.py) out of the translation: plain functions, and that the calls come to just them. No conditions beyond those that stand in each theorem. -/
import Derived.Test.YthfibffgmoblaaaDoorWw
import Derived.Test.YthfibffgmoblaaaDoorSq
import Derived.Test.YthfibffgmoblaaaDoorProg
import Derived.Below
import Derived.Deep.Draws
import Derived.Deep.AppendLies
import Derived.Maps.AppendAt
import Derived.OwnWalk
import Derived.Laws.BytesArg
import Derived.Laws.MakeOwn
import Derived.Laws.OwnMore
import Derived.Deep.OwnRows
import Derived.Tactics
import Derived.Lib.ConvBytes
import Derived.Laws.Slices
import Derived.WalkKit
import Derived.KernelRfl
import Derived.RowKit3
import Derived.Deep.LoopGhost
import Derived.Deep.QuietTactic
import Derived.BigQuiet
import Derived.WideLaws
import Derived.Deep.DeepCutAuto
import Derived.Deep.CutBlock
import Derived.Deep.RegionHeld3
import Derived.Laws.Rows
import Derived.Lib.AppendStr
import Derived.ArgAppend
import Derived.Laws.IdiomCopy
import Derived.OrdersHeld
import Derived.Laws.BitsLemmas
import Derived.RowKit
import Derived.Test.YthfibffgmoblaaaDoorGlob
import Derived.Test.YthfibffgmoblaaaDoorYm
import Derived.Test.YthfibffgmoblaaaDoorYp
import Derived.Test.YthfibffgmoblaaaDoorPBx
import Derived.Test.YthfibffgmoblaaaDoorPCx
import Derived.Test.YthfibffgmoblaaaDoorPDx
import Derived.Test.YthfibffgmoblaaaDoorPOx
import Derived.Test.YthfibffgmoblaaaDoorPRx
import Derived.Test.YthfibffgmoblaaaDoorPSx
import Derived.Test.YthfibffgmoblaaaDoorPTx
import Derived.Test.YthfibffgmoblaaaDoorPXx
import Derived.Test.YthfibffgmoblaaaDoorPQx
namespace Go.Proofs.YthfibffgmoblaaaDoor.PWorthPowers
open Go.Proofs.YthfibffgmoblaaaDoor.Sq Go.RowKit Go.Proofs.YthfibffgmoblaaaDoorW.PrintWords Go.Proofs.YthfibffgmoblaaaDoorW.PrintLast Go.Proofs.YthfibffgmoblaaaDoorW.PrintMore Go.Proofs.YthfibffgmoblaaaDoor.PB Go.Proofs.YthfibffgmoblaaaDoor.PC Go.Proofs.YthfibffgmoblaaaDoor.PD Go.Proofs.YthfibffgmoblaaaDoor.PO Go.Proofs.YthfibffgmoblaaaDoor.PR Go.Proofs.YthfibffgmoblaaaDoor.PS Go.Proofs.YthfibffgmoblaaaDoor.PT Go.Proofs.YthfibffgmoblaaaDoor.PX Go.Proofs.YthfibffgmoblaaaDoor.PQ
attribute [local go_sem] max2_int min2_int max_two min_two max_three min_three max_four min_four   -- for this text's walks alone
set_option linter.unusedVariables false
set_option linter.unusedSimpArgs false

theorem arr_cell {w : World} {g : Nat} {e : Int → Value} (o z : Nat) (l : List Int) (j : Int) (h : ∀ i, i < l.length → w.cell? ⟨g, o + i * z, none⟩ = some (e (l.getD i 0))) (h0 : 0 ≤ j) (hj : j < (l.length : Int)) : w.cell? ⟨g, o + j.toNat * z, none⟩ = some (e (rd l j)) := h j.toNat (by omega)
theorem arr_cell1 {w : World} {g : Nat} {e : Int → Value} (l : List Int) (j : Int) (h : ∀ i, i < l.length → w.cell? ⟨g, i, none⟩ = some (e (l.getD i 0))) (h0 : 0 ≤ j) (hj : j < (l.length : Int)) : w.cell? ⟨g, j.toNat, none⟩ = some (e (rd l j)) := h j.toNat (by omega)
theorem arr_cell2 {w : World} {g : Nat} {e : Int → Value} (z : Nat) (l : List Int) (j : Int) (h : ∀ i, i < l.length → w.cell? ⟨g, i * z, none⟩ = some (e (l.getD i 0))) (h0 : 0 ≤ j) (hj : j < (l.length : Int)) : w.cell? ⟨g, j.toNat * z, none⟩ = some (e (rd l j)) := h j.toNat (by omega)


def errW : Option Int → Value
 | none => .nilIface
 | some c => .iface 0 (.int .i64 c)
theorem errW_none : errW none = .nilIface := rfl
theorem errW_some (c : Int) : errW (some c) = .iface 0 (.int .i64 c) := rfl

-- the values' own types

end Go.Proofs.YthfibffgmoblaaaDoor.PWorthPowers

namespace Go.Proofs.YthfibffgmoblaaaDoor.PWorthPowers
open Go.Proofs.YthfibffgmoblaaaDoor.Sq Go.RowKit Go.Proofs.YthfibffgmoblaaaDoorW.PrintWords Go.Proofs.YthfibffgmoblaaaDoorW.PrintLast Go.Proofs.YthfibffgmoblaaaDoorW.PrintMore Go.Proofs.YthfibffgmoblaaaDoor.PB Go.Proofs.YthfibffgmoblaaaDoor.PC Go.Proofs.YthfibffgmoblaaaDoor.PD Go.Proofs.YthfibffgmoblaaaDoor.PO Go.Proofs.YthfibffgmoblaaaDoor.PR Go.Proofs.YthfibffgmoblaaaDoor.PS Go.Proofs.YthfibffgmoblaaaDoor.PT Go.Proofs.YthfibffgmoblaaaDoor.PX Go.Proofs.YthfibffgmoblaaaDoor.PQ
attribute [local go_sem] max2_int min2_int max_two min_two max_three min_three max_four min_four   -- for this text's walks alone
set_option linter.unusedVariables false
set_option linter.unusedSimpArgs false

theorem eqA29 (d : Nat) (w : World) (x0 y0 : Int) (x1 y1 : Int) (x2 y2 : Int) :
  (Op.equalIn (d + 2) 29 (.agg #[.int .i64 x0, .int .i64 x1, .int .i64 x2]) (.agg #[.int .i64 y0, .int .i64 y1, .int .i64 y2])).run Tryd.prog w = .ok (x0 == y0 && (x1 == y1 && (x2 == y2))) w := by
 refine eqA_of Tryd.underlying29 (by kernel_rfl) ?_
 refine eqf_cons (by rfl) (by go_simp; rfl) (by go_simp; rfl) (by go_simp) ?_
 refine eqf_cons (by rfl) (by go_simp; rfl) (by go_simp; rfl) (by go_simp) ?_
 exact eqf_last (by rfl) (by go_simp; rfl) (by go_simp; rfl) (by go_simp)
theorem eqA23 (d : Nat) (w : World) (x0 y0 : Int) (x1 y1 : Int) (x2 y2 : Int) (x3 y3 : Int) (x4 y4 : Int) (x5 y5 : Int) (x6 y6 : Int) :
  (Op.equalIn (d + 2) 23 (.agg #[.int .i64 x0, .int .i64 x1, .int .i64 x2, .int .i64 x3, .int .i64 x4, .int .i64 x5, .int .i64 x6]) (.agg #[.int .i64 y0, .int .i64 y1, .int .i64 y2, .int .i64 y3, .int .i64 y4, .int .i64 y5, .int .i64 y6])).run Tryd.prog w = .ok (x0 == y0 && (x1 == y1 && (x2 == y2 && (x3 == y3 && (x4 == y4 && (x5 == y5 && (x6 == y6))))))) w := eqA7 d w x0 y0 x1 y1 x2 y2 x3 y3 x4 y4 x5 y5 x6 y6
theorem eqA31 (d : Nat) (w : World) (x0 y0 : Int) (x1 y1 : Int) (x2 y2 : Int) (x3 y3 : Int) (x4 y4 : Int) (x5 y5 : Int) (x6 y6 : Int) (x7 y7 : Int) (x8 y8 : Int) (x9 y9 : Int) (x10 y10 : Int) :
  (Op.equalIn (d + 3) 31 (.agg #[.int .i64 x0, .int .i64 x1, .int .i64 x2, .int .i64 x3, .int .i64 x4, .int .i64 x5, .int .i64 x6, .int .i64 x7, .int .i64 x8, .int .i64 x9, .int .i64 x10]) (.agg #[.int .i64 y0, .int .i64 y1, .int .i64 y2, .int .i64 y3, .int .i64 y4, .int .i64 y5, .int .i64 y6, .int .i64 y7, .int .i64 y8, .int .i64 y9, .int .i64 y10])).run Tryd.prog w = .ok ((x0 == y0 && (x1 == y1 && (x2 == y2))) && ((x3 == y3 && (x4 == y4 && (x5 == y5 && (x6 == y6 && (x7 == y7 && (x8 == y8 && (x9 == y9))))))) && (x10 == y10))) w := by
 refine eqA_of Tryd.underlying31 (by kernel_rfl) ?_
 refine eqf_cons (by rfl) (by go_simp) (by go_simp) (eqA29 (d + 0) w _ _ _ _ _ _) ?_
 refine eqf_cons (by rfl) (by go_simp) (by go_simp) (eqA23 (d + 0) w _ _ _ _ _ _ _ _ _ _ _ _ _ _) ?_
 exact eqf_last (by rfl) (by go_simp; rfl) (by go_simp; rfl) (by go_simp)
end Go.Proofs.YthfibffgmoblaaaDoor.PWorthPowers

namespace Go.Proofs.YthfibffgmoblaaaDoor.PWorthPowers
open Go.Proofs.YthfibffgmoblaaaDoor.Sq Go.RowKit Go.Proofs.YthfibffgmoblaaaDoorW.PrintWords Go.Proofs.YthfibffgmoblaaaDoorW.PrintLast Go.Proofs.YthfibffgmoblaaaDoorW.PrintMore Go.Proofs.YthfibffgmoblaaaDoor.PB Go.Proofs.YthfibffgmoblaaaDoor.PC Go.Proofs.YthfibffgmoblaaaDoor.PD Go.Proofs.YthfibffgmoblaaaDoor.PO Go.Proofs.YthfibffgmoblaaaDoor.PR Go.Proofs.YthfibffgmoblaaaDoor.PS Go.Proofs.YthfibffgmoblaaaDoor.PT Go.Proofs.YthfibffgmoblaaaDoor.PX Go.Proofs.YthfibffgmoblaaaDoor.PQ
attribute [local go_sem] max2_int min2_int max_two min_two max_three min_three max_four min_four   -- for this text's walks alone
set_option linter.unusedVariables false
set_option linter.unusedSimpArgs false

attribute [local go_sem high] eqA31
/-! ### drachmlaw04_WorthPowers: function 6 -/
def drachmlaw04_WorthPowers.l0 : Nat → Bool → Int → Int → Int → Int → Int → Int → Int → Int → Int → Int → Int → Int → Int → Int → Int → Int → Int → Int → Int → Int → Int → Int → Int → Int → Int → Int → Int → Int → Int → Int → Int → Int → Int → Int → Int → Int → Int → Int → Int → Int → Int → Int → Int → Int → Int → Int → Int → Int → Int → Int → Option (Bool)
 | 0, _, _, _, _, _, _, _, _, _, _, _, _, _, _, _, _, _, _, _, _, _, _, _, _, _, _, _, _, _, _, _, _, _, _, _, _, _, _, _, _, _, _, _, _, _, _, _, _, _, _, _ => none
 | k + 1, x7, x10, x12, x14, x16, x19, x20, x128000, x128001, x128002, x128003, x128004, x128005, x128006, x128007, x128008, x128009, x128010, x141000, x141001, x141002, x141003, x141004, x141005, x141006, x141007, x141008, x141009, x141010, x154000, x154001, x154002, x154003, x154004, x154005, x154006, x154007, x154008, x154009, x154010, x167000, x167001, x167002, x167003, x167004, x167005, x167006, x167007, x167008, x167009, x167010 => if x20 < x10 then (if x19 = 0 then ((worth_Mul.f k x167000 x167001 x167002 x167003 x167004 x167005 x167006 x167007 x167008 x167009 x167010 x128000 x128001 x128002 x128003 x128004 x128005 x128006 x128007 x128008 x128009 x128010).bind fun bt167 => (drachmlaw04_WorthPowers.l0 k x7 x10 x12 x14 x16 bt167.2.2.2.2.2.2.2.2.2.2.2 (wrap64 (x20 + 1)) x128000 x128001 x128002 x128003 x128004 x128005 x128006 x128007 x128008 x128009 x128010 x141000 x141001 x141002 x141003 x141004 x141005 x141006 x141007 x141008 x141009 x141010 x154000 x154001 x154002 x154003 x154004 x154005 x154006 x154007 x154008 x154009 x154010 bt167.1 bt167.2.1 bt167.2.2.1 bt167.2.2.2.1 bt167.2.2.2.2.1 bt167.2.2.2.2.2.1 bt167.2.2.2.2.2.2.1 bt167.2.2.2.2.2.2.2.1 bt167.2.2.2.2.2.2.2.2.1 bt167.2.2.2.2.2.2.2.2.2.1 bt167.2.2.2.2.2.2.2.2.2.2.1)) else (if x12 = 0 then (if x7 = true then (if x14 = x16 then (if x14 = 0 then (if ((x141000 == x154000 && (x141001 == x154001 && (x141002 == x154002))) && ((x141003 == x154003 && (x141004 == x154004 && (x141005 == x154005 && (x141006 == x154006 && (x141007 == x154007 && (x141008 == x154008 && (x141009 == x154009))))))) && (x141010 == x154010))) = true then (if x19 = x14 then (some true) else (none)) else (none)) else (if x19 = x14 then (some true) else (none))) else (none)) else (none)) else (if x7 = true then (some (x12 == 10)) else (none)))) else (if x12 = 0 then (if x7 = true then (if x14 = x16 then (if x14 = 0 then (if ((x141000 == x154000 && (x141001 == x154001 && (x141002 == x154002))) && ((x141003 == x154003 && (x141004 == x154004 && (x141005 == x154005 && (x141006 == x154006 && (x141007 == x154007 && (x141008 == x154008 && (x141009 == x154009))))))) && (x141010 == x154010))) = true then (if x19 = x14 then (if x19 = 0 then (some ((x167000 == x141000 && (x167001 == x141001 && (x167002 == x141002))) && ((x167003 == x141003 && (x167004 == x141004 && (x167005 == x141005 && (x167006 == x141006 && (x167007 == x141007 && (x167008 == x141008 && (x167009 == x141009))))))) && (x167010 == x141010)))) else (some true)) else (none)) else (none)) else (if x19 = x14 then (if x19 = 0 then (some ((x167000 == x141000 && (x167001 == x141001 && (x167002 == x141002))) && ((x167003 == x141003 && (x167004 == x141004 && (x167005 == x141005 && (x167006 == x141006 && (x167007 == x141007 && (x167008 == x141008 && (x167009 == x141009))))))) && (x167010 == x141010)))) else (some true)) else (none))) else (none)) else (none)) else (if x7 = true then (some (x12 == 10)) else (none)))
def drachmlaw04_WorthPowers.f (k : Nat) (a0_0 : Int) (a0_1 : Int) (a0_2 : Int) (a0_3 : Int) (a0_4 : Int) (a0_5 : Int) (a0_6 : Int) (a0_7 : Int) (a0_8 : Int) (a0_9 : Int) (a0_10 : Int) (a1 : Int) (a2 : Int) : Option (Bool) := (drachmlaw04_awake.f k).bind fun t102 => ((drachmref04_Spec_Worth.f k a0_0 a0_1 a0_2 a0_3 a0_4 a0_5 a0_6 a0_7 a0_8 a0_9 0).bind fun bt103 => ((worth_Pow.f k bt103.1 bt103.2.1 bt103.2.2.1 bt103.2.2.2.1 bt103.2.2.2.2.1 bt103.2.2.2.2.2.1 bt103.2.2.2.2.2.2.1 bt103.2.2.2.2.2.2.2.1 bt103.2.2.2.2.2.2.2.2.1 bt103.2.2.2.2.2.2.2.2.2.1 bt103.2.2.2.2.2.2.2.2.2.2 (Int.tmod (wrap64 ((Int.tmod a1 4) + 4)) 4)).bind fun bt115 => ((worth_Pow.f k bt115.1 bt115.2.1 bt115.2.2.1 bt115.2.2.2.1 bt115.2.2.2.2.1 bt115.2.2.2.2.2.1 bt115.2.2.2.2.2.2.1 bt115.2.2.2.2.2.2.2.1 bt115.2.2.2.2.2.2.2.2.1 bt115.2.2.2.2.2.2.2.2.2.1 bt115.2.2.2.2.2.2.2.2.2.2.1 (Int.tmod (wrap64 ((Int.tmod a2 4) + 4)) 4)).bind fun bt128 => ((worth_Pow.f k bt103.1 bt103.2.1 bt103.2.2.1 bt103.2.2.2.1 bt103.2.2.2.2.1 bt103.2.2.2.2.2.1 bt103.2.2.2.2.2.2.1 bt103.2.2.2.2.2.2.2.1 bt103.2.2.2.2.2.2.2.2.1 bt103.2.2.2.2.2.2.2.2.2.1 bt103.2.2.2.2.2.2.2.2.2.2 (wrap64 ((Int.tmod (wrap64 ((Int.tmod a1 4) + 4)) 4) * (Int.tmod (wrap64 ((Int.tmod a2 4) + 4)) 4)))).bind fun bt141 => ((worth_Of.f k 1).bind fun bt154 => (drachmlaw04_WorthPowers.l0 k t102 (Int.tmod (wrap64 ((Int.tmod a2 4) + 4)) 4) bt115.2.2.2.2.2.2.2.2.2.2.2 bt128.2.2.2.2.2.2.2.2.2.2.2 bt141.2.2.2.2.2.2.2.2.2.2.2 0 0 bt115.1 bt115.2.1 bt115.2.2.1 bt115.2.2.2.1 bt115.2.2.2.2.1 bt115.2.2.2.2.2.1 bt115.2.2.2.2.2.2.1 bt115.2.2.2.2.2.2.2.1 bt115.2.2.2.2.2.2.2.2.1 bt115.2.2.2.2.2.2.2.2.2.1 bt115.2.2.2.2.2.2.2.2.2.2.1 bt128.1 bt128.2.1 bt128.2.2.1 bt128.2.2.2.1 bt128.2.2.2.2.1 bt128.2.2.2.2.2.1 bt128.2.2.2.2.2.2.1 bt128.2.2.2.2.2.2.2.1 bt128.2.2.2.2.2.2.2.2.1 bt128.2.2.2.2.2.2.2.2.2.1 bt128.2.2.2.2.2.2.2.2.2.2.1 bt141.1 bt141.2.1 bt141.2.2.1 bt141.2.2.2.1 bt141.2.2.2.2.1 bt141.2.2.2.2.2.1 bt141.2.2.2.2.2.2.1 bt141.2.2.2.2.2.2.2.1 bt141.2.2.2.2.2.2.2.2.1 bt141.2.2.2.2.2.2.2.2.2.1 bt141.2.2.2.2.2.2.2.2.2.2.1 bt154.1 bt154.2.1 bt154.2.2.1 bt154.2.2.2.1 bt154.2.2.2.2.1 bt154.2.2.2.2.2.1 bt154.2.2.2.2.2.2.1 bt154.2.2.2.2.2.2.2.1 bt154.2.2.2.2.2.2.2.2.1 bt154.2.2.2.2.2.2.2.2.2.1 bt154.2.2.2.2.2.2.2.2.2.2.1))))))
theorem drachmlaw04_WorthPowers.mono_l : ∀ k, (∀ y0 y1 y2 y3 y4 y5 y6 y7 y8 y9 y10 y11 y12 y13 y14 y15 y16 y17 y18 y19 y20 y21 y22 y23 y24 y25 y26 y27 y28 y29 y30 y31 y32 y33 y34 y35 y36 y37 y38 y39 y40 y41 y42 y43 y44 y45 y46 y47 y48 y49 y50, LeO (drachmlaw04_WorthPowers.l0 k y0 y1 y2 y3 y4 y5 y6 y7 y8 y9 y10 y11 y12 y13 y14 y15 y16 y17 y18 y19 y20 y21 y22 y23 y24 y25 y26 y27 y28 y29 y30 y31 y32 y33 y34 y35 y36 y37 y38 y39 y40 y41 y42 y43 y44 y45 y46 y47 y48 y49 y50) (drachmlaw04_WorthPowers.l0 (k + 1) y0 y1 y2 y3 y4 y5 y6 y7 y8 y9 y10 y11 y12 y13 y14 y15 y16 y17 y18 y19 y20 y21 y22 y23 y24 y25 y26 y27 y28 y29 y30 y31 y32 y33 y34 y35 y36 y37 y38 y39 y40 y41 y42 y43 y44 y45 y46 y47 y48 y49 y50))
 | 0 => fun _ _ _ _ _ _ _ _ _ _ _ _ _ _ _ _ _ _ _ _ _ _ _ _ _ _ _ _ _ _ _ _ _ _ _ _ _ _ _ _ _ _ _ _ _ _ _ _ _ _ _ r h => by simp [drachmlaw04_WorthPowers.l0] at h
 | k + 1 => by
  have ih0 := drachmlaw04_WorthPowers.mono_l k
  ·intro y0 y1 y2 y3 y4 y5 y6 y7 y8 y9 y10 y11 y12 y13 y14 y15 y16 y17 y18 y19 y20 y21 y22 y23 y24 y25 y26 y27 y28 y29 y30 y31 y32 y33 y34 y35 y36 y37 y38 y39 y40 y41 y42 y43 y44 y45 y46 y47 y48 y49 y50
   unfold drachmlaw04_WorthPowers.l0
   repeat' first
   | (with_reducible exact ih0 _ _ _ _ _ _ _ _ _ _ _ _ _ _ _ _ _ _ _ _ _ _ _ _ _ _ _ _ _ _ _ _ _ _ _ _ _ _ _ _ _ _ _ _ _ _ _ _ _ _ _)
   | (with_reducible exact drachmlaw04_awake.mono _)
   | (with_reducible exact drachmref04_Spec_Worth.mono _ _ _ _ _ _ _ _ _ _ _ _)
   | (with_reducible exact worth_Mul.mono _ _ _ _ _ _ _ _ _ _ _ _ _ _ _ _ _ _ _ _ _ _ _)
   | (with_reducible exact worth_Of.mono _ _)
   | (with_reducible exact worth_Pow.mono _ _ _ _ _ _ _ _ _ _ _ _ _)
   | (with_reducible exact LeO.refl _)
   | (with_reducible exact LeO.none _)
   | (with_reducible refine LeO.ite ?_ ?_)
   | (with_reducible refine LeO.bind ?_ (fun _ => ?_))
   | exact ih0 _ _ _ _ _ _ _ _ _ _ _ _ _ _ _ _ _ _ _ _ _ _ _ _ _ _ _ _ _ _ _ _ _ _ _ _ _ _ _ _ _ _ _ _ _ _ _ _ _ _ _
   | exact drachmlaw04_awake.mono _
   | exact drachmref04_Spec_Worth.mono _ _ _ _ _ _ _ _ _ _ _ _
   | exact worth_Mul.mono _ _ _ _ _ _ _ _ _ _ _ _ _ _ _ _ _ _ _ _ _ _ _
   | exact worth_Of.mono _ _
   | exact worth_Pow.mono _ _ _ _ _ _ _ _ _ _ _ _ _
   | exact LeO.none _
   | refine LeO.ite ?_ ?_
   | refine LeO.bind ?_ (fun _ => ?_)
theorem drachmlaw04_WorthPowers.mono : ∀ a0 a1 a2 a3 a4 a5 a6 a7 a8 a9 a10 a11 a12 k, LeO (drachmlaw04_WorthPowers.f k a0 a1 a2 a3 a4 a5 a6 a7 a8 a9 a10 a11 a12) (drachmlaw04_WorthPowers.f (k + 1) a0 a1 a2 a3 a4 a5 a6 a7 a8 a9 a10 a11 a12) := by
 intro a0 a1 a2 a3 a4 a5 a6 a7 a8 a9 a10 a11 a12 k
 have ih0 := drachmlaw04_WorthPowers.mono_l k
 unfold drachmlaw04_WorthPowers.f
 repeat' first
   | (with_reducible exact ih0 _ _ _ _ _ _ _ _ _ _ _ _ _ _ _ _ _ _ _ _ _ _ _ _ _ _ _ _ _ _ _ _ _ _ _ _ _ _ _ _ _ _ _ _ _ _ _ _ _ _ _)
   | (with_reducible exact drachmlaw04_awake.mono _)
   | (with_reducible exact drachmref04_Spec_Worth.mono _ _ _ _ _ _ _ _ _ _ _ _)
   | (with_reducible exact worth_Mul.mono _ _ _ _ _ _ _ _ _ _ _ _ _ _ _ _ _ _ _ _ _ _ _)
   | (with_reducible exact worth_Of.mono _ _)
   | (with_reducible exact worth_Pow.mono _ _ _ _ _ _ _ _ _ _ _ _ _)
   | (with_reducible exact LeO.refl _)
   | (with_reducible exact LeO.none _)
   | (with_reducible refine LeO.ite ?_ ?_)
   | (with_reducible refine LeO.bind ?_ (fun _ => ?_))
   | exact ih0 _ _ _ _ _ _ _ _ _ _ _ _ _ _ _ _ _ _ _ _ _ _ _ _ _ _ _ _ _ _ _ _ _ _ _ _ _ _ _ _ _ _ _ _ _ _ _ _ _ _ _
   | exact drachmlaw04_awake.mono _
   | exact drachmref04_Spec_Worth.mono _ _ _ _ _ _ _ _ _ _ _ _
   | exact worth_Mul.mono _ _ _ _ _ _ _ _ _ _ _ _ _ _ _ _ _ _ _ _ _ _ _
   | exact worth_Of.mono _ _
   | exact worth_Pow.mono _ _ _ _ _ _ _ _ _ _ _ _ _
   | exact LeO.none _
   | refine LeO.ite ?_ ?_
   | refine LeO.bind ?_ (fun _ => ?_)
set_option maxHeartbeats 8000000 in
set_option maxRecDepth 100000 in
theorem drachmlaw04_WorthPowers.calls (k : Nat) (a0_0 : Int) (a0_1 : Int) (a0_2 : Int) (a0_3 : Int) (a0_4 : Int) (a0_5 : Int) (a0_6 : Int) (a0_7 : Int) (a0_8 : Int) (a0_9 : Int) (a0_10 : Int) (a1 : Int) (a2 : Int) (r : Bool) (w : World) (hG : Glob [0, 1, 2] w) (h : drachmlaw04_WorthPowers.f k a0_0 a0_1 a0_2 a0_3 a0_4 a0_5 a0_6 a0_7 a0_8 a0_9 a0_10 a1 a2 = some r) :
  Calls Tryd.prog 6 #[.agg #[.int .i64 a0_0, .int .i64 a0_1, .int .i64 a0_2, .int .i64 a0_3, .int .i64 a0_4, .int .i64 a0_5, .int .i64 a0_6, .int .i64 a0_7, .int .i64 a0_8, .int .i64 a0_9, .int .i64 a0_10], .int .i64 a1, .int .i64 a2] w fun e w' => e = .returned (.bool r) ∧ Below w.heap.size w w' := by
 have hu25 := Tryd.underlying25
 have hu31 := Tryd.underlying31
 have HB := Aside0.mk (Below.refl w.heap.size w)
 have H : ((drachmlaw04_awake.f k).bind fun t102 => ((drachmref04_Spec_Worth.f k a0_0 a0_1 a0_2 a0_3 a0_4 a0_5 a0_6 a0_7 a0_8 a0_9 0).bind fun bt103 => ((worth_Pow.f k bt103.1 bt103.2.1 bt103.2.2.1 bt103.2.2.2.1 bt103.2.2.2.2.1 bt103.2.2.2.2.2.1 bt103.2.2.2.2.2.2.1 bt103.2.2.2.2.2.2.2.1 bt103.2.2.2.2.2.2.2.2.1 bt103.2.2.2.2.2.2.2.2.2.1 bt103.2.2.2.2.2.2.2.2.2.2 (Int.tmod (wrap64 ((Int.tmod a1 4) + 4)) 4)).bind fun bt115 => ((worth_Pow.f k bt115.1 bt115.2.1 bt115.2.2.1 bt115.2.2.2.1 bt115.2.2.2.2.1 bt115.2.2.2.2.2.1 bt115.2.2.2.2.2.2.1 bt115.2.2.2.2.2.2.2.1 bt115.2.2.2.2.2.2.2.2.1 bt115.2.2.2.2.2.2.2.2.2.1 bt115.2.2.2.2.2.2.2.2.2.2.1 (Int.tmod (wrap64 ((Int.tmod a2 4) + 4)) 4)).bind fun bt128 => ((worth_Pow.f k bt103.1 bt103.2.1 bt103.2.2.1 bt103.2.2.2.1 bt103.2.2.2.2.1 bt103.2.2.2.2.2.1 bt103.2.2.2.2.2.2.1 bt103.2.2.2.2.2.2.2.1 bt103.2.2.2.2.2.2.2.2.1 bt103.2.2.2.2.2.2.2.2.2.1 bt103.2.2.2.2.2.2.2.2.2.2 (wrap64 ((Int.tmod (wrap64 ((Int.tmod a1 4) + 4)) 4) * (Int.tmod (wrap64 ((Int.tmod a2 4) + 4)) 4)))).bind fun bt141 => ((worth_Of.f k 1).bind fun bt154 => (drachmlaw04_WorthPowers.l0 k t102 (Int.tmod (wrap64 ((Int.tmod a2 4) + 4)) 4) bt115.2.2.2.2.2.2.2.2.2.2.2 bt128.2.2.2.2.2.2.2.2.2.2.2 bt141.2.2.2.2.2.2.2.2.2.2.2 0 0 bt115.1 bt115.2.1 bt115.2.2.1 bt115.2.2.2.1 bt115.2.2.2.2.1 bt115.2.2.2.2.2.1 bt115.2.2.2.2.2.2.1 bt115.2.2.2.2.2.2.2.1 bt115.2.2.2.2.2.2.2.2.1 bt115.2.2.2.2.2.2.2.2.2.1 bt115.2.2.2.2.2.2.2.2.2.2.1 bt128.1 bt128.2.1 bt128.2.2.1 bt128.2.2.2.1 bt128.2.2.2.2.1 bt128.2.2.2.2.2.1 bt128.2.2.2.2.2.2.1 bt128.2.2.2.2.2.2.2.1 bt128.2.2.2.2.2.2.2.2.1 bt128.2.2.2.2.2.2.2.2.2.1 bt128.2.2.2.2.2.2.2.2.2.2.1 bt141.1 bt141.2.1 bt141.2.2.1 bt141.2.2.2.1 bt141.2.2.2.2.1 bt141.2.2.2.2.2.1 bt141.2.2.2.2.2.2.1 bt141.2.2.2.2.2.2.2.1 bt141.2.2.2.2.2.2.2.2.1 bt141.2.2.2.2.2.2.2.2.2.1 bt141.2.2.2.2.2.2.2.2.2.2.1 bt154.1 bt154.2.1 bt154.2.2.1 bt154.2.2.2.1 bt154.2.2.2.2.1 bt154.2.2.2.2.2.1 bt154.2.2.2.2.2.2.1 bt154.2.2.2.2.2.2.2.1 bt154.2.2.2.2.2.2.2.2.1 bt154.2.2.2.2.2.2.2.2.2.1 bt154.2.2.2.2.2.2.2.2.2.2.1))))))) = some r := h
 clear h
 replace H := Option.bind_eq_some_iff.mp H
 obtain ⟨t102, A40, H⟩ := H
 replace H : ((drachmref04_Spec_Worth.f k a0_0 a0_1 a0_2 a0_3 a0_4 a0_5 a0_6 a0_7 a0_8 a0_9 0).bind fun bt103 => ((worth_Pow.f k bt103.1 bt103.2.1 bt103.2.2.1 bt103.2.2.2.1 bt103.2.2.2.2.1 bt103.2.2.2.2.2.1 bt103.2.2.2.2.2.2.1 bt103.2.2.2.2.2.2.2.1 bt103.2.2.2.2.2.2.2.2.1 bt103.2.2.2.2.2.2.2.2.2.1 bt103.2.2.2.2.2.2.2.2.2.2 (Int.tmod (wrap64 ((Int.tmod a1 4) + 4)) 4)).bind fun bt115 => ((worth_Pow.f k bt115.1 bt115.2.1 bt115.2.2.1 bt115.2.2.2.1 bt115.2.2.2.2.1 bt115.2.2.2.2.2.1 bt115.2.2.2.2.2.2.1 bt115.2.2.2.2.2.2.2.1 bt115.2.2.2.2.2.2.2.2.1 bt115.2.2.2.2.2.2.2.2.2.1 bt115.2.2.2.2.2.2.2.2.2.2.1 (Int.tmod (wrap64 ((Int.tmod a2 4) + 4)) 4)).bind fun bt128 => ((worth_Pow.f k bt103.1 bt103.2.1 bt103.2.2.1 bt103.2.2.2.1 bt103.2.2.2.2.1 bt103.2.2.2.2.2.1 bt103.2.2.2.2.2.2.1 bt103.2.2.2.2.2.2.2.1 bt103.2.2.2.2.2.2.2.2.1 bt103.2.2.2.2.2.2.2.2.2.1 bt103.2.2.2.2.2.2.2.2.2.2 (wrap64 ((Int.tmod (wrap64 ((Int.tmod a1 4) + 4)) 4) * (Int.tmod (wrap64 ((Int.tmod a2 4) + 4)) 4)))).bind fun bt141 => ((worth_Of.f k 1).bind fun bt154 => (drachmlaw04_WorthPowers.l0 k t102 (Int.tmod (wrap64 ((Int.tmod a2 4) + 4)) 4) bt115.2.2.2.2.2.2.2.2.2.2.2 bt128.2.2.2.2.2.2.2.2.2.2.2 bt141.2.2.2.2.2.2.2.2.2.2.2 0 0 bt115.1 bt115.2.1 bt115.2.2.1 bt115.2.2.2.1 bt115.2.2.2.2.1 bt115.2.2.2.2.2.1 bt115.2.2.2.2.2.2.1 bt115.2.2.2.2.2.2.2.1 bt115.2.2.2.2.2.2.2.2.1 bt115.2.2.2.2.2.2.2.2.2.1 bt115.2.2.2.2.2.2.2.2.2.2.1 bt128.1 bt128.2.1 bt128.2.2.1 bt128.2.2.2.1 bt128.2.2.2.2.1 bt128.2.2.2.2.2.1 bt128.2.2.2.2.2.2.1 bt128.2.2.2.2.2.2.2.1 bt128.2.2.2.2.2.2.2.2.1 bt128.2.2.2.2.2.2.2.2.2.1 bt128.2.2.2.2.2.2.2.2.2.2.1 bt141.1 bt141.2.1 bt141.2.2.1 bt141.2.2.2.1 bt141.2.2.2.2.1 bt141.2.2.2.2.2.1 bt141.2.2.2.2.2.2.1 bt141.2.2.2.2.2.2.2.1 bt141.2.2.2.2.2.2.2.2.1 bt141.2.2.2.2.2.2.2.2.2.1 bt141.2.2.2.2.2.2.2.2.2.2.1 bt154.1 bt154.2.1 bt154.2.2.1 bt154.2.2.2.1 bt154.2.2.2.2.1 bt154.2.2.2.2.2.1 bt154.2.2.2.2.2.2.1 bt154.2.2.2.2.2.2.2.1 bt154.2.2.2.2.2.2.2.2.1 bt154.2.2.2.2.2.2.2.2.2.1 bt154.2.2.2.2.2.2.2.2.2.2.1)))))) = some r := H
 have A4 := Aside0.mk A40
 clear A40
 replace H := Option.bind_eq_some_iff.mp H
 obtain ⟨⟨t103, t104, t105, t106, t107, t108, t109, t110, t111, t112, t113⟩, A50, H⟩ := H
 replace H : ((worth_Pow.f k t103 t104 t105 t106 t107 t108 t109 t110 t111 t112 t113 (Int.tmod (wrap64 ((Int.tmod a1 4) + 4)) 4)).bind fun bt115 => ((worth_Pow.f k bt115.1 bt115.2.1 bt115.2.2.1 bt115.2.2.2.1 bt115.2.2.2.2.1 bt115.2.2.2.2.2.1 bt115.2.2.2.2.2.2.1 bt115.2.2.2.2.2.2.2.1 bt115.2.2.2.2.2.2.2.2.1 bt115.2.2.2.2.2.2.2.2.2.1 bt115.2.2.2.2.2.2.2.2.2.2.1 (Int.tmod (wrap64 ((Int.tmod a2 4) + 4)) 4)).bind fun bt128 => ((worth_Pow.f k t103 t104 t105 t106 t107 t108 t109 t110 t111 t112 t113 (wrap64 ((Int.tmod (wrap64 ((Int.tmod a1 4) + 4)) 4) * (Int.tmod (wrap64 ((Int.tmod a2 4) + 4)) 4)))).bind fun bt141 => ((worth_Of.f k 1).bind fun bt154 => (drachmlaw04_WorthPowers.l0 k t102 (Int.tmod (wrap64 ((Int.tmod a2 4) + 4)) 4) bt115.2.2.2.2.2.2.2.2.2.2.2 bt128.2.2.2.2.2.2.2.2.2.2.2 bt141.2.2.2.2.2.2.2.2.2.2.2 0 0 bt115.1 bt115.2.1 bt115.2.2.1 bt115.2.2.2.1 bt115.2.2.2.2.1 bt115.2.2.2.2.2.1 bt115.2.2.2.2.2.2.1 bt115.2.2.2.2.2.2.2.1 bt115.2.2.2.2.2.2.2.2.1 bt115.2.2.2.2.2.2.2.2.2.1 bt115.2.2.2.2.2.2.2.2.2.2.1 bt128.1 bt128.2.1 bt128.2.2.1 bt128.2.2.2.1 bt128.2.2.2.2.1 bt128.2.2.2.2.2.1 bt128.2.2.2.2.2.2.1 bt128.2.2.2.2.2.2.2.1 bt128.2.2.2.2.2.2.2.2.1 bt128.2.2.2.2.2.2.2.2.2.1 bt128.2.2.2.2.2.2.2.2.2.2.1 bt141.1 bt141.2.1 bt141.2.2.1 bt141.2.2.2.1 bt141.2.2.2.2.1 bt141.2.2.2.2.2.1 bt141.2.2.2.2.2.2.1 bt141.2.2.2.2.2.2.2.1 bt141.2.2.2.2.2.2.2.2.1 bt141.2.2.2.2.2.2.2.2.2.1 bt141.2.2.2.2.2.2.2.2.2.2.1 bt154.1 bt154.2.1 bt154.2.2.1 bt154.2.2.2.1 bt154.2.2.2.2.1 bt154.2.2.2.2.2.1 bt154.2.2.2.2.2.2.1 bt154.2.2.2.2.2.2.2.1 bt154.2.2.2.2.2.2.2.2.1 bt154.2.2.2.2.2.2.2.2.2.1 bt154.2.2.2.2.2.2.2.2.2.2.1))))) = some r := H
 have A5 := Aside0.mk A50
 clear A50
 replace H := Option.bind_eq_some_iff.mp H
 obtain ⟨⟨t115, t116, t117, t118, t119, t120, t121, t122, t123, t124, t125, t126⟩, A60, H⟩ := H
 replace H : ((worth_Pow.f k t115 t116 t117 t118 t119 t120 t121 t122 t123 t124 t125 (Int.tmod (wrap64 ((Int.tmod a2 4) + 4)) 4)).bind fun bt128 => ((worth_Pow.f k t103 t104 t105 t106 t107 t108 t109 t110 t111 t112 t113 (wrap64 ((Int.tmod (wrap64 ((Int.tmod a1 4) + 4)) 4) * (Int.tmod (wrap64 ((Int.tmod a2 4) + 4)) 4)))).bind fun bt141 => ((worth_Of.f k 1).bind fun bt154 => (drachmlaw04_WorthPowers.l0 k t102 (Int.tmod (wrap64 ((Int.tmod a2 4) + 4)) 4) t126 bt128.2.2.2.2.2.2.2.2.2.2.2 bt141.2.2.2.2.2.2.2.2.2.2.2 0 0 t115 t116 t117 t118 t119 t120 t121 t122 t123 t124 t125 bt128.1 bt128.2.1 bt128.2.2.1 bt128.2.2.2.1 bt128.2.2.2.2.1 bt128.2.2.2.2.2.1 bt128.2.2.2.2.2.2.1 bt128.2.2.2.2.2.2.2.1 bt128.2.2.2.2.2.2.2.2.1 bt128.2.2.2.2.2.2.2.2.2.1 bt128.2.2.2.2.2.2.2.2.2.2.1 bt141.1 bt141.2.1 bt141.2.2.1 bt141.2.2.2.1 bt141.2.2.2.2.1 bt141.2.2.2.2.2.1 bt141.2.2.2.2.2.2.1 bt141.2.2.2.2.2.2.2.1 bt141.2.2.2.2.2.2.2.2.1 bt141.2.2.2.2.2.2.2.2.2.1 bt141.2.2.2.2.2.2.2.2.2.2.1 bt154.1 bt154.2.1 bt154.2.2.1 bt154.2.2.2.1 bt154.2.2.2.2.1 bt154.2.2.2.2.2.1 bt154.2.2.2.2.2.2.1 bt154.2.2.2.2.2.2.2.1 bt154.2.2.2.2.2.2.2.2.1 bt154.2.2.2.2.2.2.2.2.2.1 bt154.2.2.2.2.2.2.2.2.2.2.1)))) = some r := H
 have A6 := Aside0.mk A60
 clear A60
 replace H := Option.bind_eq_some_iff.mp H
 obtain ⟨⟨t128, t129, t130, t131, t132, t133, t134, t135, t136, t137, t138, t139⟩, A70, H⟩ := H
 replace H : ((worth_Pow.f k t103 t104 t105 t106 t107 t108 t109 t110 t111 t112 t113 (wrap64 ((Int.tmod (wrap64 ((Int.tmod a1 4) + 4)) 4) * (Int.tmod (wrap64 ((Int.tmod a2 4) + 4)) 4)))).bind fun bt141 => ((worth_Of.f k 1).bind fun bt154 => (drachmlaw04_WorthPowers.l0 k t102 (Int.tmod (wrap64 ((Int.tmod a2 4) + 4)) 4) t126 t139 bt141.2.2.2.2.2.2.2.2.2.2.2 0 0 t115 t116 t117 t118 t119 t120 t121 t122 t123 t124 t125 t128 t129 t130 t131 t132 t133 t134 t135 t136 t137 t138 bt141.1 bt141.2.1 bt141.2.2.1 bt141.2.2.2.1 bt141.2.2.2.2.1 bt141.2.2.2.2.2.1 bt141.2.2.2.2.2.2.1 bt141.2.2.2.2.2.2.2.1 bt141.2.2.2.2.2.2.2.2.1 bt141.2.2.2.2.2.2.2.2.2.1 bt141.2.2.2.2.2.2.2.2.2.2.1 bt154.1 bt154.2.1 bt154.2.2.1 bt154.2.2.2.1 bt154.2.2.2.2.1 bt154.2.2.2.2.2.1 bt154.2.2.2.2.2.2.1 bt154.2.2.2.2.2.2.2.1 bt154.2.2.2.2.2.2.2.2.1 bt154.2.2.2.2.2.2.2.2.2.1 bt154.2.2.2.2.2.2.2.2.2.2.1))) = some r := H
 have A7 := Aside0.mk A70
 clear A70
 replace H := Option.bind_eq_some_iff.mp H
 obtain ⟨⟨t141, t142, t143, t144, t145, t146, t147, t148, t149, t150, t151, t152⟩, A80, H⟩ := H
 replace H : ((worth_Of.f k 1).bind fun bt154 => (drachmlaw04_WorthPowers.l0 k t102 (Int.tmod (wrap64 ((Int.tmod a2 4) + 4)) 4) t126 t139 t152 0 0 t115 t116 t117 t118 t119 t120 t121 t122 t123 t124 t125 t128 t129 t130 t131 t132 t133 t134 t135 t136 t137 t138 t141 t142 t143 t144 t145 t146 t147 t148 t149 t150 t151 bt154.1 bt154.2.1 bt154.2.2.1 bt154.2.2.2.1 bt154.2.2.2.2.1 bt154.2.2.2.2.2.1 bt154.2.2.2.2.2.2.1 bt154.2.2.2.2.2.2.2.1 bt154.2.2.2.2.2.2.2.2.1 bt154.2.2.2.2.2.2.2.2.2.1 bt154.2.2.2.2.2.2.2.2.2.2.1)) = some r := H
 have A8 := Aside0.mk A80
 clear A80
 replace H := Option.bind_eq_some_iff.mp H
 obtain ⟨⟨t154, t155, t156, t157, t158, t159, t160, t161, t162, t163, t164, t165⟩, A90, H⟩ := H
 replace H : (drachmlaw04_WorthPowers.l0 k t102 (Int.tmod (wrap64 ((Int.tmod a2 4) + 4)) 4) t126 t139 t152 0 0 t115 t116 t117 t118 t119 t120 t121 t122 t123 t124 t125 t128 t129 t130 t131 t132 t133 t134 t135 t136 t137 t138 t141 t142 t143 t144 t145 t146 t147 t148 t149 t150 t151 t154 t155 t156 t157 t158 t159 t160 t161 t162 t163 t164) = some r := H
 have A9 := Aside0.mk A90
 clear A90
 have H' := Aside0.mk H
 clear H
 go_enter Tryd.func6, Tryd.ntmps6
 go_wp2_with (first | ((with_reducible refine gate_dst (N := 3) rfl ?_); refine box_event ?hg (N := 3) ?hd (cs := #[.int .i64 a0_0, .int .i64 a0_1, .int .i64 a0_2, .int .i64 a0_3, .int .i64 a0_4, .int .i64 a0_5, .int .i64 a0_6, .int .i64 a0_7, .int .i64 a0_8, .int .i64 a0_9, .int .i64 a0_10]) (t := 25) ?hr ?_; (case hd => rfl); (case hg => rfl); (case hr => first | (go_simp; done) | (go_simp; rfl)); intro gb101 hg w10 hbox hb; have n0_ := sb HB hb; have n1_ := Aside0.mk (hbox); have n2_ := Aside0.mk ((by rw [hg]; exact (below_size (bl HB.out)) : w.heap.size ≤ gb101)); have n3_ := Aside0.mk ((by rw [hg]; exact (below_size (bl HB.out)) : w.heap.size ≤ gb101)); clear HB; have HB := n0_; have BK101 := n1_; have GW101 := n2_; have GE101 := n3_; clear n0_ n1_ n2_ n3_; clear hb hbox hg) | (go_at_call 9; (with_reducible refine (drachmlaw04_awake.calls k  t102 _ (Glob.use hG (by decide) (bl HB.out)) A4.out).mono ?_); rintro e w11 ⟨rfl, hb⟩; replace BK101 := kb BK101 hb; replace HB := sb HB hb; (try clear hb); (try clear hb2); (try clear hk); (try clear hi); obtain ⟨hcz12_0, hcz12_1, hcz12_2, hcz12_3, hcz12_4, hcz12_5, hcz12_6, hcz12_7, hcz12_8, hcz12_9, hcz12_10⟩ := hc11 BK101.out; obtain ⟨hfz12_0, hfz12_1, hfz12_2, hfz12_3, hfz12_4, hfz12_5, hfz12_6, hfz12_7, hfz12_8, hfz12_9, hfz12_10⟩ := hf11 BK101.out) | (go_at_call 10; (with_reducible refine (drachmref04_Spec_Worth.calls k a0_0 a0_1 a0_2 a0_3 a0_4 a0_5 a0_6 a0_7 a0_8 a0_9 0 t103 t104 t105 t106 t107 t108 t109 t110 t111 t112 t113 _ A5.out).mono ?_); rintro e w13 ⟨rfl, hb⟩; replace BK101 := Aside0.mk (blk_below (kp (p11_10 (kp BK101.out))) hb); replace HB := sb HB hb; (try clear hb); (try clear hb2); (try clear hk); (try clear hi)) | ((with_reducible refine gate_dst (N := 8) rfl ?_); refine box_event ?hg (N := 8) ?hd (cs := #[.int .i64 0, .int .i64 0, .int .i64 0, .int .i64 0, .int .i64 0, .int .i64 0, .int .i64 0, .int .i64 0, .int .i64 0, .int .i64 0, .int .i64 0]) (t := 31) ?hr ?_; (case hd => rfl); (case hg => rfl); (case hr => first | (go_simp; done) | (go_simp; rfl)); intro gb114 hg w14 hbox hb; have n0_ := kb BK101 hb; have n1_ := sb HB hb; have n2_ := Aside0.mk (hbox); have n3_ := Aside0.mk ((by rw [hg]; exact (below_size (bl HB.out)) : w.heap.size ≤ gb114)); have n4_ := Aside0.mk ((by rw [hg]; exact (below_size (bl HB.out)) : w.heap.size ≤ gb114)); have n5_ := Aside0.mk ((by rw [hg]; exact Nat.ne_of_lt (blk_lt (kp BK101.out)) : gb101 ≠ gb114)); have n6_ := Aside0.mk ((by rw [hg]; exact Nat.ne_of_gt (blk_lt (kp BK101.out)) : gb114 ≠ gb101)); clear BK101; clear HB; have BK101 := n0_; have HB := n1_; have BK114 := n2_; have GW114 := n3_; have GE114 := n4_; have NB101_114 := n5_; have NB114_101 := n6_; clear n0_ n1_ n2_ n3_ n4_ n5_ n6_; clear hb hbox hg; have hnb15 := NB114_101.out; have hnc15 := NB101_114.out; obtain ⟨hcz16_0, hcz16_1, hcz16_2, hcz16_3, hcz16_4, hcz16_5, hcz16_6, hcz16_7, hcz16_8, hcz16_9, hcz16_10⟩ := hc11 BK114.out; obtain ⟨hfz16_0, hfz16_1, hfz16_2, hfz16_3, hfz16_4, hfz16_5, hfz16_6, hfz16_7, hfz16_8, hfz16_9, hfz16_10⟩ := hf11 BK114.out) | (go_at_call 16; (with_reducible refine (worth_Pow.calls k t103 t104 t105 t106 t107 t108 t109 t110 t111 t112 t113 (Int.tmod (wrap64 ((Int.tmod a1 4) + 4)) 4) t115 t116 t117 t118 t119 t120 t121 t122 t123 t124 t125 t126 _ (Glob.use hG (by decide) (bl HB.out)) A6.out).mono ?_); rintro e w17 ⟨rfl, hb⟩; replace BK101 := kb BK101 hb; replace BK114 := Aside0.mk (blk_below (kp (p11_10 (kp (p11_9 (kp (p11_8 (kp (p11_7 (kp (p11_6 (kp (p11_5 (kp (p11_4 (kp (p11_3 (kp (p11_2 (kp (p11_1 (kp (p11_0 (kp BK114.out))))))))))))))))))))))) hb); replace HB := sb HB hb; (try clear hb); (try clear hb2); (try clear hk); (try clear hi)) | ((with_reducible refine gate_dst (N := 11) rfl ?_); refine box_event ?hg (N := 11) ?hd (cs := #[.int .i64 0, .int .i64 0, .int .i64 0, .int .i64 0, .int .i64 0, .int .i64 0, .int .i64 0, .int .i64 0, .int .i64 0, .int .i64 0, .int .i64 0]) (t := 31) ?hr ?_; (case hd => rfl); (case hg => rfl); (case hr => first | (go_simp; done) | (go_simp; rfl)); intro gb127 hg w18 hbox hb; have n0_ := kb BK101 hb; have n1_ := kb BK114 hb; have n2_ := sb HB hb; have n3_ := Aside0.mk (hbox); have n4_ := Aside0.mk ((by rw [hg]; exact (below_size (bl HB.out)) : w.heap.size ≤ gb127)); have n5_ := Aside0.mk ((by rw [hg]; exact (below_size (bl HB.out)) : w.heap.size ≤ gb127)); have n6_ := Aside0.mk ((by rw [hg]; exact Nat.ne_of_lt (blk_lt (kp BK101.out)) : gb101 ≠ gb127)); have n7_ := Aside0.mk ((by rw [hg]; exact Nat.ne_of_gt (blk_lt (kp BK101.out)) : gb127 ≠ gb101)); have n8_ := Aside0.mk ((by rw [hg]; exact Nat.ne_of_lt (blk_lt (kp BK114.out)) : gb114 ≠ gb127)); have n9_ := Aside0.mk ((by rw [hg]; exact Nat.ne_of_gt (blk_lt (kp BK114.out)) : gb127 ≠ gb114)); clear BK101; clear BK114; clear HB; have BK101 := n0_; have BK114 := n1_; have HB := n2_; have BK127 := n3_; have GW127 := n4_; have GE127 := n5_; have NB101_127 := n6_; have NB127_101 := n7_; have NB114_127 := n8_; have NB127_114 := n9_; clear n0_ n1_ n2_ n3_ n4_ n5_ n6_ n7_ n8_ n9_; clear hb hbox hg; have hnb19 := NB127_101.out; have hnc19 := NB101_127.out; have hnb20 := NB127_114.out; have hnc20 := NB114_127.out; obtain ⟨hcz21_0, hcz21_1, hcz21_2, hcz21_3, hcz21_4, hcz21_5, hcz21_6, hcz21_7, hcz21_8, hcz21_9, hcz21_10⟩ := hc11 BK127.out; obtain ⟨hfz21_0, hfz21_1, hfz21_2, hfz21_3, hfz21_4, hfz21_5, hfz21_6, hfz21_7, hfz21_8, hfz21_9, hfz21_10⟩ := hf11 BK127.out) | (go_at_call 16; (with_reducible refine (worth_Pow.calls k t115 t116 t117 t118 t119 t120 t121 t122 t123 t124 t125 (Int.tmod (wrap64 ((Int.tmod a2 4) + 4)) 4) t128 t129 t130 t131 t132 t133 t134 t135 t136 t137 t138 t139 _ (Glob.use hG (by decide) (bl HB.out)) A7.out).mono ?_); rintro e w22 ⟨rfl, hb⟩; replace BK101 := kb BK101 hb; replace BK114 := kb BK114 hb; replace BK127 := Aside0.mk (blk_below (kp (p11_10 (kp (p11_9 (kp (p11_8 (kp (p11_7 (kp (p11_6 (kp (p11_5 (kp (p11_4 (kp (p11_3 (kp (p11_2 (kp (p11_1 (kp (p11_0 (kp BK127.out))))))))))))))))))))))) hb); replace HB := sb HB hb; (try clear hb); (try clear hb2); (try clear hk); (try clear hi)) | ((with_reducible refine gate_dst (N := 13) rfl ?_); refine box_event ?hg (N := 13) ?hd (cs := #[.int .i64 0, .int .i64 0, .int .i64 0, .int .i64 0, .int .i64 0, .int .i64 0, .int .i64 0, .int .i64 0, .int .i64 0, .int .i64 0, .int .i64 0]) (t := 31) ?hr ?_; (case hd => rfl); (case hg => rfl); (case hr => first | (go_simp; done) | (go_simp; rfl)); intro gb140 hg w23 hbox hb; have n0_ := kb BK101 hb; have n1_ := kb BK114 hb; have n2_ := kb BK127 hb; have n3_ := sb HB hb; have n4_ := Aside0.mk (hbox); have n5_ := Aside0.mk ((by rw [hg]; exact (below_size (bl HB.out)) : w.heap.size ≤ gb140)); have n6_ := Aside0.mk ((by rw [hg]; exact (below_size (bl HB.out)) : w.heap.size ≤ gb140)); have n7_ := Aside0.mk ((by rw [hg]; exact Nat.ne_of_lt (blk_lt (kp BK101.out)) : gb101 ≠ gb140)); have n8_ := Aside0.mk ((by rw [hg]; exact Nat.ne_of_gt (blk_lt (kp BK101.out)) : gb140 ≠ gb101)); have n9_ := Aside0.mk ((by rw [hg]; exact Nat.ne_of_lt (blk_lt (kp BK114.out)) : gb114 ≠ gb140)); have n10_ := Aside0.mk ((by rw [hg]; exact Nat.ne_of_gt (blk_lt (kp BK114.out)) : gb140 ≠ gb114)); have n11_ := Aside0.mk ((by rw [hg]; exact Nat.ne_of_lt (blk_lt (kp BK127.out)) : gb127 ≠ gb140)); have n12_ := Aside0.mk ((by rw [hg]; exact Nat.ne_of_gt (blk_lt (kp BK127.out)) : gb140 ≠ gb127)); clear BK101; clear BK114; clear BK127; clear HB; have BK101 := n0_; have BK114 := n1_; have BK127 := n2_; have HB := n3_; have BK140 := n4_; have GW140 := n5_; have GE140 := n6_; have NB101_140 := n7_; have NB140_101 := n8_; have NB114_140 := n9_; have NB140_114 := n10_; have NB127_140 := n11_; have NB140_127 := n12_; clear n0_ n1_ n2_ n3_ n4_ n5_ n6_ n7_ n8_ n9_ n10_ n11_ n12_; clear hb hbox hg; have hnb24 := NB140_101.out; have hnc24 := NB101_140.out; have hnb25 := NB140_114.out; have hnc25 := NB114_140.out; have hnb26 := NB140_127.out; have hnc26 := NB127_140.out; obtain ⟨hcz27_0, hcz27_1, hcz27_2, hcz27_3, hcz27_4, hcz27_5, hcz27_6, hcz27_7, hcz27_8, hcz27_9, hcz27_10⟩ := hc11 BK140.out; obtain ⟨hfz27_0, hfz27_1, hfz27_2, hfz27_3, hfz27_4, hfz27_5, hfz27_6, hfz27_7, hfz27_8, hfz27_9, hfz27_10⟩ := hf11 BK140.out; obtain ⟨hcz28_0, hcz28_1, hcz28_2, hcz28_3, hcz28_4, hcz28_5, hcz28_6, hcz28_7, hcz28_8, hcz28_9, hcz28_10⟩ := hc11 BK114.out; obtain ⟨hfz28_0, hfz28_1, hfz28_2, hfz28_3, hfz28_4, hfz28_5, hfz28_6, hfz28_7, hfz28_8, hfz28_9, hfz28_10⟩ := hf11 BK114.out) | (go_at_call 16; (with_reducible refine (worth_Pow.calls k t103 t104 t105 t106 t107 t108 t109 t110 t111 t112 t113 (wrap64 ((Int.tmod (wrap64 ((Int.tmod a1 4) + 4)) 4) * (Int.tmod (wrap64 ((Int.tmod a2 4) + 4)) 4))) t141 t142 t143 t144 t145 t146 t147 t148 t149 t150 t151 t152 _ (Glob.use hG (by decide) (bl HB.out)) A8.out).mono ?_); rintro e w29 ⟨rfl, hb⟩; replace BK101 := kb BK101 hb; replace BK114 := kb BK114 hb; replace BK127 := kb BK127 hb; replace BK140 := Aside0.mk (blk_below (kp (p11_10 (kp (p11_9 (kp (p11_8 (kp (p11_7 (kp (p11_6 (kp (p11_5 (kp (p11_4 (kp (p11_3 (kp (p11_2 (kp (p11_1 (kp (p11_0 (kp BK140.out))))))))))))))))))))))) hb); replace HB := sb HB hb; (try clear hb); (try clear hb2); (try clear hk); (try clear hi)) | ((with_reducible refine gate_dst (N := 15) rfl ?_); refine box_event ?hg (N := 15) ?hd (cs := #[.int .i64 0, .int .i64 0, .int .i64 0, .int .i64 0, .int .i64 0, .int .i64 0, .int .i64 0, .int .i64 0, .int .i64 0, .int .i64 0, .int .i64 0]) (t := 31) ?hr ?_; (case hd => rfl); (case hg => rfl); (case hr => first | (go_simp; done) | (go_simp; rfl)); intro gb153 hg w30 hbox hb; have n0_ := kb BK101 hb; have n1_ := kb BK114 hb; have n2_ := kb BK127 hb; have n3_ := kb BK140 hb; have n4_ := sb HB hb; have n5_ := Aside0.mk (hbox); have n6_ := Aside0.mk ((by rw [hg]; exact (below_size (bl HB.out)) : w.heap.size ≤ gb153)); have n7_ := Aside0.mk ((by rw [hg]; exact (below_size (bl HB.out)) : w.heap.size ≤ gb153)); have n8_ := Aside0.mk ((by rw [hg]; exact Nat.ne_of_lt (blk_lt (kp BK101.out)) : gb101 ≠ gb153)); have n9_ := Aside0.mk ((by rw [hg]; exact Nat.ne_of_gt (blk_lt (kp BK101.out)) : gb153 ≠ gb101)); have n10_ := Aside0.mk ((by rw [hg]; exact Nat.ne_of_lt (blk_lt (kp BK114.out)) : gb114 ≠ gb153)); have n11_ := Aside0.mk ((by rw [hg]; exact Nat.ne_of_gt (blk_lt (kp BK114.out)) : gb153 ≠ gb114)); have n12_ := Aside0.mk ((by rw [hg]; exact Nat.ne_of_lt (blk_lt (kp BK127.out)) : gb127 ≠ gb153)); have n13_ := Aside0.mk ((by rw [hg]; exact Nat.ne_of_gt (blk_lt (kp BK127.out)) : gb153 ≠ gb127)); have n14_ := Aside0.mk ((by rw [hg]; exact Nat.ne_of_lt (blk_lt (kp BK140.out)) : gb140 ≠ gb153)); have n15_ := Aside0.mk ((by rw [hg]; exact Nat.ne_of_gt (blk_lt (kp BK140.out)) : gb153 ≠ gb140)); clear BK101; clear BK114; clear BK127; clear BK140; clear HB; have BK101 := n0_; have BK114 := n1_; have BK127 := n2_; have BK140 := n3_; have HB := n4_; have BK153 := n5_; have GW153 := n6_; have GE153 := n7_; have NB101_153 := n8_; have NB153_101 := n9_; have NB114_153 := n10_; have NB153_114 := n11_; have NB127_153 := n12_; have NB153_127 := n13_; have NB140_153 := n14_; have NB153_140 := n15_; clear n0_ n1_ n2_ n3_ n4_ n5_ n6_ n7_ n8_ n9_ n10_ n11_ n12_ n13_ n14_ n15_; clear hb hbox hg; have hnb31 := NB153_101.out; have hnc31 := NB101_153.out; have hnb32 := NB153_114.out; have hnc32 := NB114_153.out; have hnb33 := NB153_127.out; have hnc33 := NB127_153.out; have hnb34 := NB153_140.out; have hnc34 := NB140_153.out; obtain ⟨hcz35_0, hcz35_1, hcz35_2, hcz35_3, hcz35_4, hcz35_5, hcz35_6, hcz35_7, hcz35_8, hcz35_9, hcz35_10⟩ := hc11 BK153.out; obtain ⟨hfz35_0, hfz35_1, hfz35_2, hfz35_3, hfz35_4, hfz35_5, hfz35_6, hfz35_7, hfz35_8, hfz35_9, hfz35_10⟩ := hf11 BK153.out) | (go_at_call 15; (with_reducible refine (worth_Of.calls k 1 t154 t155 t156 t157 t158 t159 t160 t161 t162 t163 t164 t165 _ (Glob.use hG (by decide) (bl HB.out)) A9.out).mono ?_); rintro e w36 ⟨rfl, hb⟩; replace BK101 := kb BK101 hb; replace BK114 := kb BK114 hb; replace BK127 := kb BK127 hb; replace BK140 := kb BK140 hb; replace BK153 := Aside0.mk (blk_below (kp (p11_10 (kp (p11_9 (kp (p11_8 (kp (p11_7 (kp (p11_6 (kp (p11_5 (kp (p11_4 (kp (p11_3 (kp (p11_2 (kp (p11_1 (kp (p11_0 (kp BK153.out))))))))))))))))))))))) hb); replace HB := sb HB hb; (try clear hb); (try clear hb2); (try clear hk); (try clear hi)) | ((with_reducible refine gate_dst (N := 17) rfl ?_); refine box_event ?hg (N := 17) ?hd (cs := #[.int .i64 0, .int .i64 0, .int .i64 0, .int .i64 0, .int .i64 0, .int .i64 0, .int .i64 0, .int .i64 0, .int .i64 0, .int .i64 0, .int .i64 0]) (t := 31) ?hr ?_; (case hd => rfl); (case hg => rfl); (case hr => first | (go_simp; done) | (go_simp; rfl)); intro gb166 hg w37 hbox hb; have n0_ := kb BK101 hb; have n1_ := kb BK114 hb; have n2_ := kb BK127 hb; have n3_ := kb BK140 hb; have n4_ := kb BK153 hb; have n5_ := sb HB hb; have n6_ := Aside0.mk (hbox); have n7_ := Aside0.mk ((by rw [hg]; exact (below_size (bl HB.out)) : w.heap.size ≤ gb166)); have n8_ := Aside0.mk ((by rw [hg]; exact (below_size (bl HB.out)) : w.heap.size ≤ gb166)); have n9_ := Aside0.mk ((by rw [hg]; exact Nat.ne_of_lt (blk_lt (kp BK101.out)) : gb101 ≠ gb166)); have n10_ := Aside0.mk ((by rw [hg]; exact Nat.ne_of_gt (blk_lt (kp BK101.out)) : gb166 ≠ gb101)); have n11_ := Aside0.mk ((by rw [hg]; exact Nat.ne_of_lt (blk_lt (kp BK114.out)) : gb114 ≠ gb166)); have n12_ := Aside0.mk ((by rw [hg]; exact Nat.ne_of_gt (blk_lt (kp BK114.out)) : gb166 ≠ gb114)); have n13_ := Aside0.mk ((by rw [hg]; exact Nat.ne_of_lt (blk_lt (kp BK127.out)) : gb127 ≠ gb166)); have n14_ := Aside0.mk ((by rw [hg]; exact Nat.ne_of_gt (blk_lt (kp BK127.out)) : gb166 ≠ gb127)); have n15_ := Aside0.mk ((by rw [hg]; exact Nat.ne_of_lt (blk_lt (kp BK140.out)) : gb140 ≠ gb166)); have n16_ := Aside0.mk ((by rw [hg]; exact Nat.ne_of_gt (blk_lt (kp BK140.out)) : gb166 ≠ gb140)); have n17_ := Aside0.mk ((by rw [hg]; exact Nat.ne_of_lt (blk_lt (kp BK153.out)) : gb153 ≠ gb166)); have n18_ := Aside0.mk ((by rw [hg]; exact Nat.ne_of_gt (blk_lt (kp BK153.out)) : gb166 ≠ gb153)); clear BK101; clear BK114; clear BK127; clear BK140; clear BK153; clear HB; have BK101 := n0_; have BK114 := n1_; have BK127 := n2_; have BK140 := n3_; have BK153 := n4_; have HB := n5_; have BK166 := n6_; have GW166 := n7_; have GE166 := n8_; have NB101_166 := n9_; have NB166_101 := n10_; have NB114_166 := n11_; have NB166_114 := n12_; have NB127_166 := n13_; have NB166_127 := n14_; have NB140_166 := n15_; have NB166_140 := n16_; have NB153_166 := n17_; have NB166_153 := n18_; clear n0_ n1_ n2_ n3_ n4_ n5_ n6_ n7_ n8_ n9_ n10_ n11_ n12_ n13_ n14_ n15_ n16_ n17_ n18_; clear hb hbox hg; have hnb38 := NB166_101.out; have hnc38 := NB101_166.out; have hnb39 := NB166_114.out; have hnc39 := NB114_166.out; have hnb40 := NB166_127.out; have hnc40 := NB127_166.out; have hnb41 := NB166_140.out; have hnc41 := NB140_166.out; have hnb42 := NB166_153.out; have hnc42 := NB153_166.out; obtain ⟨hcz43_0, hcz43_1, hcz43_2, hcz43_3, hcz43_4, hcz43_5, hcz43_6, hcz43_7, hcz43_8, hcz43_9, hcz43_10⟩ := hc11 BK166.out; obtain ⟨hfz43_0, hfz43_1, hfz43_2, hfz43_3, hfz43_4, hfz43_5, hfz43_6, hfz43_7, hfz43_8, hfz43_9, hfz43_10⟩ := hf11 BK166.out))
 go_loopg [19, 20] k (fun kq v19 v20 w' => ∃ (x19_1 : Int) (x20_1 : Int) (x167000_1 : Int) (x167001_1 : Int) (x167002_1 : Int) (x167003_1 : Int) (x167004_1 : Int) (x167005_1 : Int) (x167006_1 : Int) (x167007_1 : Int) (x167008_1 : Int) (x167009_1 : Int) (x167010_1 : Int), v19 = .int .i64 x19_1 ∧ v20 = .int .i64 x20_1 ∧ Aside0 (drachmlaw04_WorthPowers.l0 kq t102 (Int.tmod (wrap64 ((Int.tmod a2 4) + 4)) 4) t126 t139 t152 x19_1 x20_1 t115 t116 t117 t118 t119 t120 t121 t122 t123 t124 t125 t128 t129 t130 t131 t132 t133 t134 t135 t136 t137 t138 t141 t142 t143 t144 t145 t146 t147 t148 t149 t150 t151 x167000_1 x167001_1 x167002_1 x167003_1 x167004_1 x167005_1 x167006_1 x167007_1 x167008_1 x167009_1 x167010_1 = some r) ∧ Aside0 (kq ≤ k) ∧ Aside0 (w'.heap[gb101]? = some (.cells #[.int .i64 a0_0, .int .i64 a0_1, .int .i64 a0_2, .int .i64 a0_3, .int .i64 a0_4, .int .i64 a0_5, .int .i64 a0_6, .int .i64 a0_7, .int .i64 a0_8, .int .i64 a0_9, .int .i64 0] 25 (0, 0))) ∧ Aside0 (w'.heap[gb114]? = some (.cells #[.int .i64 t103, .int .i64 t104, .int .i64 t105, .int .i64 t106, .int .i64 t107, .int .i64 t108, .int .i64 t109, .int .i64 t110, .int .i64 t111, .int .i64 t112, .int .i64 t113] 31 (0, 0))) ∧ Aside0 (w'.heap[gb127]? = some (.cells #[.int .i64 t115, .int .i64 t116, .int .i64 t117, .int .i64 t118, .int .i64 t119, .int .i64 t120, .int .i64 t121, .int .i64 t122, .int .i64 t123, .int .i64 t124, .int .i64 t125] 31 (0, 0))) ∧ Aside0 (w'.heap[gb140]? = some (.cells #[.int .i64 t128, .int .i64 t129, .int .i64 t130, .int .i64 t131, .int .i64 t132, .int .i64 t133, .int .i64 t134, .int .i64 t135, .int .i64 t136, .int .i64 t137, .int .i64 t138] 31 (0, 0))) ∧ Aside0 (w'.heap[gb153]? = some (.cells #[.int .i64 t141, .int .i64 t142, .int .i64 t143, .int .i64 t144, .int .i64 t145, .int .i64 t146, .int .i64 t147, .int .i64 t148, .int .i64 t149, .int .i64 t150, .int .i64 t151] 31 (0, 0))) ∧ Aside0 (w'.heap[gb166]? = some (.cells #[.int .i64 x167000_1, .int .i64 x167001_1, .int .i64 x167002_1, .int .i64 x167003_1, .int .i64 x167004_1, .int .i64 x167005_1, .int .i64 x167006_1, .int .i64 x167007_1, .int .i64 x167008_1, .int .i64 x167009_1, .int .i64 x167010_1] 31 (0, 0))) ∧ Aside0 (Below w.heap.size w w'))
 case atStart => exact ⟨(0), (0), (t154), (t155), (t156), (t157), (t158), (t159), (t160), (t161), (t162), (t163), (t164), (by first | rfl | (simp; done) | (simp [*]; done)), (by first | rfl | (simp; done) | (simp [*]; done)), H', ⟨Nat.le_refl _⟩, ⟨kp BK101.out⟩, ⟨kp BK114.out⟩, ⟨kp BK127.out⟩, ⟨kp BK140.out⟩, ⟨kp BK153.out⟩, ⟨kp (p11_10 (kp (p11_9 (kp (p11_8 (kp (p11_7 (kp (p11_6 (kp (p11_5 (kp (p11_4 (kp (p11_3 (kp (p11_2 (kp (p11_1 (kp (p11_0 (kp BK166.out))))))))))))))))))))))⟩, ⟨bl HB.out⟩⟩
 case round =>
  clear H'
  try clear c1
  try clear c2
  try clear p2
  try clear c3
  try clear c4
  try clear c6
  try clear p6
  try clear c9
  try clear c10
  try clear c15
  try clear c16
  try clear c19
  try clear c20
  try clear c24
  try clear c25
  try clear c26
  try clear c31
  try clear c32
  try clear c33
  try clear c34
  try clear c38
  try clear c39
  try clear c40
  try clear c41
  try clear c42
  try clear hcz12_0 hcz12_1 hcz12_10 hcz12_2 hcz12_3 hcz12_4 hcz12_5 hcz12_6 hcz12_7 hcz12_8 hcz12_9
  try clear hcz16_0 hcz16_1 hcz16_10 hcz16_2 hcz16_3 hcz16_4 hcz16_5 hcz16_6 hcz16_7 hcz16_8 hcz16_9
  try clear hcz21_0 hcz21_1 hcz21_10 hcz21_2 hcz21_3 hcz21_4 hcz21_5 hcz21_6 hcz21_7 hcz21_8 hcz21_9
  try clear hcz27_0 hcz27_1 hcz27_10 hcz27_2 hcz27_3 hcz27_4 hcz27_5 hcz27_6 hcz27_7 hcz27_8 hcz27_9
  try clear hcz28_0 hcz28_1 hcz28_10 hcz28_2 hcz28_3 hcz28_4 hcz28_5 hcz28_6 hcz28_7 hcz28_8 hcz28_9
  try clear hcz35_0 hcz35_1 hcz35_10 hcz35_2 hcz35_3 hcz35_4 hcz35_5 hcz35_6 hcz35_7 hcz35_8 hcz35_9
  try clear hcz43_0 hcz43_1 hcz43_10 hcz43_2 hcz43_3 hcz43_4 hcz43_5 hcz43_6 hcz43_7 hcz43_8 hcz43_9
  try clear hfz12_0 hfz12_1 hfz12_10 hfz12_2 hfz12_3 hfz12_4 hfz12_5 hfz12_6 hfz12_7 hfz12_8 hfz12_9
  try clear hfz16_0 hfz16_1 hfz16_10 hfz16_2 hfz16_3 hfz16_4 hfz16_5 hfz16_6 hfz16_7 hfz16_8 hfz16_9
  try clear hfz21_0 hfz21_1 hfz21_10 hfz21_2 hfz21_3 hfz21_4 hfz21_5 hfz21_6 hfz21_7 hfz21_8 hfz21_9
  try clear hfz27_0 hfz27_1 hfz27_10 hfz27_2 hfz27_3 hfz27_4 hfz27_5 hfz27_6 hfz27_7 hfz27_8 hfz27_9
  try clear hfz28_0 hfz28_1 hfz28_10 hfz28_2 hfz28_3 hfz28_4 hfz28_5 hfz28_6 hfz28_7 hfz28_8 hfz28_9
  try clear hfz35_0 hfz35_1 hfz35_10 hfz35_2 hfz35_3 hfz35_4 hfz35_5 hfz35_6 hfz35_7 hfz35_8 hfz35_9
  try clear hfz43_0 hfz43_1 hfz43_10 hfz43_2 hfz43_3 hfz43_4 hfz43_5 hfz43_6 hfz43_7 hfz43_8 hfz43_9
  obtain ⟨x19_1, x20_1, x167000_1, x167001_1, x167002_1, x167003_1, x167004_1, x167005_1, x167006_1, x167007_1, x167008_1, x167009_1, x167010_1, rfl, rfl, HA, HK1, BK101, BK114, BK127, BK140, BK153, BK166, HB⟩ := hrel
  cases gk with
  | zero => exact absurd HA.out (by simp [drachmlaw04_WorthPowers.l0])
  | succ k1 =>
   have H := HA.out
   clear HA
   simp only [drachmlaw04_WorthPowers.l0] at H
   by_cases c44 : x20_1 < (Int.tmod (wrap64 ((Int.tmod a2 4) + 4)) 4)
   ·rw [if_pos c44] at H
    have c44b0 : decide (x20_1 < (Int.tmod (wrap64 ((Int.tmod a2 4) + 4)) 4)) = true := decide_eq_true c44
    clear c44
    by_cases c45 : x19_1 = 0
    ·rw [if_pos c45] at H
     have c45b0 : (x19_1 == 0) = true := beq_iff_eq.mpr c45
     have c45b1 : (x19_1 != 0) = false := bne_eq_false_iff_eq.mpr c45
     clear c45
     replace H := Option.bind_eq_some_iff.mp H
     obtain ⟨⟨t167, t168, t169, t170, t171, t172, t173, t174, t175, t176, t177, t178⟩, A460, H⟩ := H
     replace H : (drachmlaw04_WorthPowers.l0 k1 t102 (Int.tmod (wrap64 ((Int.tmod a2 4) + 4)) 4) t126 t139 t152 t178 (wrap64 (x20_1 + 1)) t115 t116 t117 t118 t119 t120 t121 t122 t123 t124 t125 t128 t129 t130 t131 t132 t133 t134 t135 t136 t137 t138 t141 t142 t143 t144 t145 t146 t147 t148 t149 t150 t151 t167 t168 t169 t170 t171 t172 t173 t174 t175 t176 t177) = some r := H
     have A46 := Aside0.mk A460
     clear A460
     have H' := Aside0.mk H
     clear H
     have hnb47 := NB166_101.out
     have hnc47 := NB101_166.out
     have hnb48 := NB166_114.out
     have hnc48 := NB114_166.out
     have hnb49 := NB166_127.out
     have hnc49 := NB127_166.out
     have hnb50 := NB166_140.out
     have hnc50 := NB140_166.out
     have hnb51 := NB166_153.out
     have hnc51 := NB153_166.out
     obtain ⟨hcz52_0, hcz52_1, hcz52_2, hcz52_3, hcz52_4, hcz52_5, hcz52_6, hcz52_7, hcz52_8, hcz52_9, hcz52_10⟩ := hc11 BK166.out
     obtain ⟨hfz52_0, hfz52_1, hfz52_2, hfz52_3, hfz52_4, hfz52_5, hfz52_6, hfz52_7, hfz52_8, hfz52_9, hfz52_10⟩ := hf11 BK166.out
     have hnb53 := NB127_101.out
     have hnc53 := NB101_127.out
     have hnb54 := NB127_114.out
     have hnc54 := NB114_127.out
     have hnb55 := NB127_140.out
     have hnc55 := NB140_127.out
     have hnb56 := NB127_153.out
     have hnc56 := NB153_127.out
     obtain ⟨hcz57_0, hcz57_1, hcz57_2, hcz57_3, hcz57_4, hcz57_5, hcz57_6, hcz57_7, hcz57_8, hcz57_9, hcz57_10⟩ := hc11 BK127.out
     obtain ⟨hfz57_0, hfz57_1, hfz57_2, hfz57_3, hfz57_4, hfz57_5, hfz57_6, hfz57_7, hfz57_8, hfz57_9, hfz57_10⟩ := hf11 BK127.out
     go_wp2_with (first | (go_at_call 13; (with_reducible refine (worth_Mul.calls k1 x167000_1 x167001_1 x167002_1 x167003_1 x167004_1 x167005_1 x167006_1 x167007_1 x167008_1 x167009_1 x167010_1 t115 t116 t117 t118 t119 t120 t121 t122 t123 t124 t125 t167 t168 t169 t170 t171 t172 t173 t174 t175 t176 t177 t178 _ (Glob.use hG (by decide) (bl HB.out)) A46.out).mono ?_); rintro e w58 ⟨rfl, hb⟩; replace BK101 := kb BK101 hb; replace BK114 := kb BK114 hb; replace BK127 := kb BK127 hb; replace BK140 := kb BK140 hb; replace BK153 := kb BK153 hb; replace BK166 := kb BK166 hb; replace HB := sb HB hb; (try clear hb); (try clear hb2); (try clear hk); (try clear hi); obtain ⟨hcz59_0, hcz59_1, hcz59_2, hcz59_3, hcz59_4, hcz59_5, hcz59_6, hcz59_7, hcz59_8, hcz59_9, hcz59_10⟩ := hc11 BK166.out; obtain ⟨hfz59_0, hfz59_1, hfz59_2, hfz59_3, hfz59_4, hfz59_5, hfz59_6, hfz59_7, hfz59_8, hfz59_9, hfz59_10⟩ := hf11 BK166.out))
     go_roundg k1
     case measure => have := HK1.out; omega
     case rel => exact ⟨(t178), (wrap64 (x20_1 + 1)), (t167), (t168), (t169), (t170), (t171), (t172), (t173), (t174), (t175), (t176), (t177), (by first | rfl | (simp; done) | (simp [*]; done)), (by first | rfl | (simp; done) | (simp [*]; done)), H', ⟨by have := HK1.out; omega⟩, ⟨kp BK101.out⟩, ⟨kp BK114.out⟩, ⟨kp BK127.out⟩, ⟨kp BK140.out⟩, ⟨kp BK153.out⟩, ⟨kp (p11_10 (kp (p11_9 (kp (p11_8 (kp (p11_7 (kp (p11_6 (kp (p11_5 (kp (p11_4 (kp (p11_3 (kp (p11_2 (kp (p11_1 (kp (p11_0 (kp BK166.out))))))))))))))))))))))⟩, ⟨bl HB.out⟩⟩
    ·rw [if_neg c45] at H
     have c45b0 : (x19_1 == 0) = false := beq_eq_false_iff_ne.mpr c45
     have c45b1 : (x19_1 != 0) = true := bne_iff_ne.mpr c45
     by_cases c60 : t126 = 0
     ·rw [if_pos c60] at H
      have c60b0 : (t126 == 0) = true := beq_iff_eq.mpr c60
      have c60b1 : (t126 != 0) = false := bne_eq_false_iff_eq.mpr c60
      clear c60
      by_cases c61 : t102 = true
      ·subst c61
       have H1 : (if t139 = t152 then (if t139 = 0 then (if ((t128 == t141 && (t129 == t142 && (t130 == t143))) && ((t131 == t144 && (t132 == t145 && (t133 == t146 && (t134 == t147 && (t135 == t148 && (t136 == t149 && (t137 == t150))))))) && (t138 == t151))) = true then (if x19_1 = t139 then (some true) else (none)) else (none)) else (if x19_1 = t139 then (some true) else (none))) else (none)) = some r := by rw [if_pos rfl] at H; exact H
       clear H
       have H := H1
       clear H1
       by_cases c62 : t139 = t152
       ·rw [if_pos c62] at H
        have c62b0 : (t139 == t152) = true := beq_iff_eq.mpr c62
        have c62b1 : (t139 != t152) = false := bne_eq_false_iff_eq.mpr c62
        clear c62
        by_cases c63 : t139 = 0
        ·rw [if_pos c63] at H
         have c63b0 : (t139 == 0) = true := beq_iff_eq.mpr c63
         have c63b1 : (t139 != 0) = false := bne_eq_false_iff_eq.mpr c63
         clear c63
         by_cases c64 : ((t128 == t141 && (t129 == t142 && (t130 == t143))) && ((t131 == t144 && (t132 == t145 && (t133 == t146 && (t134 == t147 && (t135 == t148 && (t136 == t149 && (t137 == t150))))))) && (t138 == t151))) = true
         ·rw [if_pos c64] at H
          have c64b0 : ((t128 == t141 && (t129 == t142 && (t130 == t143))) && ((t131 == t144 && (t132 == t145 && (t133 == t146 && (t134 == t147 && (t135 == t148 && (t136 == t149 && (t137 == t150))))))) && (t138 == t151))) = true := c64
          clear c64
          by_cases c65 : x19_1 = t139
          ·rw [if_pos c65] at H
           have c65b0 : (x19_1 == t139) = true := beq_iff_eq.mpr c65
           have c65b1 : (x19_1 != t139) = false := bne_eq_false_iff_eq.mpr c65
           clear c65
           obtain rfl := Option.some.inj H
           have hnb66 := NB140_101.out
           have hnc66 := NB101_140.out
           have hnb67 := NB140_114.out
           have hnc67 := NB114_140.out
           have hnb68 := NB140_127.out
           have hnc68 := NB127_140.out
           have hnb69 := NB140_153.out
           have hnc69 := NB153_140.out
           have hnb70 := NB140_166.out
           have hnc70 := NB166_140.out
           obtain ⟨hcz71_0, hcz71_1, hcz71_2, hcz71_3, hcz71_4, hcz71_5, hcz71_6, hcz71_7, hcz71_8, hcz71_9, hcz71_10⟩ := hc11 BK140.out
           obtain ⟨hfz71_0, hfz71_1, hfz71_2, hfz71_3, hfz71_4, hfz71_5, hfz71_6, hfz71_7, hfz71_8, hfz71_9, hfz71_10⟩ := hf11 BK140.out
           have hnb72 := NB153_101.out
           have hnc72 := NB101_153.out
           have hnb73 := NB153_114.out
           have hnc73 := NB114_153.out
           have hnb74 := NB153_127.out
           have hnc74 := NB127_153.out
           have hnb75 := NB153_166.out
           have hnc75 := NB166_153.out
           obtain ⟨hcz76_0, hcz76_1, hcz76_2, hcz76_3, hcz76_4, hcz76_5, hcz76_6, hcz76_7, hcz76_8, hcz76_9, hcz76_10⟩ := hc11 BK153.out
           obtain ⟨hfz76_0, hfz76_1, hfz76_2, hfz76_3, hfz76_4, hfz76_5, hfz76_6, hfz76_7, hfz76_8, hfz76_9, hfz76_10⟩ := hf11 BK153.out
           go_wp2
           go_ret
           exact ⟨by first | rfl | (simp [errW_none, errW_some] <;> rfl) | (simp [*, errW_none, errW_some] <;> rfl), bl HB.out⟩
          ·rw [if_neg c65] at H
           exact absurd H (by simp)
         ·rw [if_neg c64] at H
          exact absurd H (by simp)
        ·rw [if_neg c63] at H
         have c63b0 : (t139 == 0) = false := beq_eq_false_iff_ne.mpr c63
         have c63b1 : (t139 != 0) = true := bne_iff_ne.mpr c63
         by_cases c77 : x19_1 = t139
         ·rw [if_pos c77] at H
          have c77b0 : (x19_1 == t139) = true := beq_iff_eq.mpr c77
          have c77b1 : (x19_1 != t139) = false := bne_eq_false_iff_eq.mpr c77
          clear c77
          obtain rfl := Option.some.inj H
          go_wp2
          go_ret
          exact ⟨by first | rfl | (simp [errW_none, errW_some] <;> rfl) | (simp [*, errW_none, errW_some] <;> rfl), bl HB.out⟩
         ·rw [if_neg c77] at H
          exact absurd H (by simp)
       ·rw [if_neg c62] at H
        exact absurd H (by simp)
      ·replace c61 := Bool.eq_false_iff.mpr c61
       subst c61
       have H1 : (none) = some r := by rw [if_neg (show ¬ (false = true) by decide)] at H; exact H
       clear H
       have H := H1
       clear H1
       exact absurd H (by simp)
     ·rw [if_neg c60] at H
      have c60b0 : (t126 == 0) = false := beq_eq_false_iff_ne.mpr c60
      have c60b1 : (t126 != 0) = true := bne_iff_ne.mpr c60
      by_cases c78 : t102 = true
      ·subst c78
       have H1 : (some (t126 == 10)) = some r := by rw [if_pos rfl] at H; exact H
       clear H
       have H := H1
       clear H1
       obtain rfl := Option.some.inj H
       go_wp2
       go_ret
       exact ⟨by first | rfl | (simp [errW_none, errW_some] <;> rfl) | (simp [*, errW_none, errW_some] <;> rfl), bl HB.out⟩
      ·replace c78 := Bool.eq_false_iff.mpr c78
       subst c78
       have H1 : (none) = some r := by rw [if_neg (show ¬ (false = true) by decide)] at H; exact H
       clear H
       have H := H1
       clear H1
       exact absurd H (by simp)
   ·rw [if_neg c44] at H
    have c44b0 : decide (x20_1 < (Int.tmod (wrap64 ((Int.tmod a2 4) + 4)) 4)) = false := decide_eq_false c44
    clear c44
    by_cases c79 : t126 = 0
    ·rw [if_pos c79] at H
     have c79b0 : (t126 == 0) = true := beq_iff_eq.mpr c79
     have c79b1 : (t126 != 0) = false := bne_eq_false_iff_eq.mpr c79
     clear c79
     by_cases c80 : t102 = true
     ·subst c80
      have H1 : (if t139 = t152 then (if t139 = 0 then (if ((t128 == t141 && (t129 == t142 && (t130 == t143))) && ((t131 == t144 && (t132 == t145 && (t133 == t146 && (t134 == t147 && (t135 == t148 && (t136 == t149 && (t137 == t150))))))) && (t138 == t151))) = true then (if x19_1 = t139 then (if x19_1 = 0 then (some ((x167000_1 == t128 && (x167001_1 == t129 && (x167002_1 == t130))) && ((x167003_1 == t131 && (x167004_1 == t132 && (x167005_1 == t133 && (x167006_1 == t134 && (x167007_1 == t135 && (x167008_1 == t136 && (x167009_1 == t137))))))) && (x167010_1 == t138)))) else (some true)) else (none)) else (none)) else (if x19_1 = t139 then (if x19_1 = 0 then (some ((x167000_1 == t128 && (x167001_1 == t129 && (x167002_1 == t130))) && ((x167003_1 == t131 && (x167004_1 == t132 && (x167005_1 == t133 && (x167006_1 == t134 && (x167007_1 == t135 && (x167008_1 == t136 && (x167009_1 == t137))))))) && (x167010_1 == t138)))) else (some true)) else (none))) else (none)) = some r := by rw [if_pos rfl] at H; exact H
      clear H
      have H := H1
      clear H1
      by_cases c81 : t139 = t152
      ·rw [if_pos c81] at H
       have c81b0 : (t139 == t152) = true := beq_iff_eq.mpr c81
       have c81b1 : (t139 != t152) = false := bne_eq_false_iff_eq.mpr c81
       clear c81
       by_cases c82 : t139 = 0
       ·rw [if_pos c82] at H
        have c82b0 : (t139 == 0) = true := beq_iff_eq.mpr c82
        have c82b1 : (t139 != 0) = false := bne_eq_false_iff_eq.mpr c82
        clear c82
        by_cases c83 : ((t128 == t141 && (t129 == t142 && (t130 == t143))) && ((t131 == t144 && (t132 == t145 && (t133 == t146 && (t134 == t147 && (t135 == t148 && (t136 == t149 && (t137 == t150))))))) && (t138 == t151))) = true
        ·rw [if_pos c83] at H
         have c83b0 : ((t128 == t141 && (t129 == t142 && (t130 == t143))) && ((t131 == t144 && (t132 == t145 && (t133 == t146 && (t134 == t147 && (t135 == t148 && (t136 == t149 && (t137 == t150))))))) && (t138 == t151))) = true := c83
         clear c83
         by_cases c84 : x19_1 = t139
         ·rw [if_pos c84] at H
          have c84b0 : (x19_1 == t139) = true := beq_iff_eq.mpr c84
          have c84b1 : (x19_1 != t139) = false := bne_eq_false_iff_eq.mpr c84
          clear c84
          by_cases c85 : x19_1 = 0
          ·rw [if_pos c85] at H
           have c85b0 : (x19_1 == 0) = true := beq_iff_eq.mpr c85
           have c85b1 : (x19_1 != 0) = false := bne_eq_false_iff_eq.mpr c85
           clear c85
           obtain rfl := Option.some.inj H
           have hnb86 := NB140_101.out
           have hnc86 := NB101_140.out
           have hnb87 := NB140_114.out
           have hnc87 := NB114_140.out
           have hnb88 := NB140_127.out
           have hnc88 := NB127_140.out
           have hnb89 := NB140_153.out
           have hnc89 := NB153_140.out
           have hnb90 := NB140_166.out
           have hnc90 := NB166_140.out
           obtain ⟨hcz91_0, hcz91_1, hcz91_2, hcz91_3, hcz91_4, hcz91_5, hcz91_6, hcz91_7, hcz91_8, hcz91_9, hcz91_10⟩ := hc11 BK140.out
           obtain ⟨hfz91_0, hfz91_1, hfz91_2, hfz91_3, hfz91_4, hfz91_5, hfz91_6, hfz91_7, hfz91_8, hfz91_9, hfz91_10⟩ := hf11 BK140.out
           have hnb92 := NB153_101.out
           have hnc92 := NB101_153.out
           have hnb93 := NB153_114.out
           have hnc93 := NB114_153.out
           have hnb94 := NB153_127.out
           have hnc94 := NB127_153.out
           have hnb95 := NB153_166.out
           have hnc95 := NB166_153.out
           obtain ⟨hcz96_0, hcz96_1, hcz96_2, hcz96_3, hcz96_4, hcz96_5, hcz96_6, hcz96_7, hcz96_8, hcz96_9, hcz96_10⟩ := hc11 BK153.out
           obtain ⟨hfz96_0, hfz96_1, hfz96_2, hfz96_3, hfz96_4, hfz96_5, hfz96_6, hfz96_7, hfz96_8, hfz96_9, hfz96_10⟩ := hf11 BK153.out
           have hnb97 := NB166_101.out
           have hnc97 := NB101_166.out
           have hnb98 := NB166_114.out
           have hnc98 := NB114_166.out
           have hnb99 := NB166_127.out
           have hnc99 := NB127_166.out
           obtain ⟨hcz100_0, hcz100_1, hcz100_2, hcz100_3, hcz100_4, hcz100_5, hcz100_6, hcz100_7, hcz100_8, hcz100_9, hcz100_10⟩ := hc11 BK166.out
           obtain ⟨hfz100_0, hfz100_1, hfz100_2, hfz100_3, hfz100_4, hfz100_5, hfz100_6, hfz100_7, hfz100_8, hfz100_9, hfz100_10⟩ := hf11 BK166.out
           go_wp2
           go_ret
           exact ⟨by first | rfl | (simp [errW_none, errW_some] <;> rfl) | (simp [*, errW_none, errW_some] <;> rfl), bl HB.out⟩
          ·rw [if_neg c85] at H
           have c85b0 : (x19_1 == 0) = false := beq_eq_false_iff_ne.mpr c85
           have c85b1 : (x19_1 != 0) = true := bne_iff_ne.mpr c85
           obtain rfl := Option.some.inj H
           have hnb101 := NB140_101.out
           have hnc101 := NB101_140.out
           have hnb102 := NB140_114.out
           have hnc102 := NB114_140.out
           have hnb103 := NB140_127.out
           have hnc103 := NB127_140.out
           have hnb104 := NB140_153.out
           have hnc104 := NB153_140.out
           have hnb105 := NB140_166.out
           have hnc105 := NB166_140.out
           obtain ⟨hcz106_0, hcz106_1, hcz106_2, hcz106_3, hcz106_4, hcz106_5, hcz106_6, hcz106_7, hcz106_8, hcz106_9, hcz106_10⟩ := hc11 BK140.out
           obtain ⟨hfz106_0, hfz106_1, hfz106_2, hfz106_3, hfz106_4, hfz106_5, hfz106_6, hfz106_7, hfz106_8, hfz106_9, hfz106_10⟩ := hf11 BK140.out
           have hnb107 := NB153_101.out
           have hnc107 := NB101_153.out
           have hnb108 := NB153_114.out
           have hnc108 := NB114_153.out
           have hnb109 := NB153_127.out
           have hnc109 := NB127_153.out
           have hnb110 := NB153_166.out
           have hnc110 := NB166_153.out
           obtain ⟨hcz111_0, hcz111_1, hcz111_2, hcz111_3, hcz111_4, hcz111_5, hcz111_6, hcz111_7, hcz111_8, hcz111_9, hcz111_10⟩ := hc11 BK153.out
           obtain ⟨hfz111_0, hfz111_1, hfz111_2, hfz111_3, hfz111_4, hfz111_5, hfz111_6, hfz111_7, hfz111_8, hfz111_9, hfz111_10⟩ := hf11 BK153.out
           go_wp2
           go_ret
           exact ⟨by first | rfl | (simp [errW_none, errW_some] <;> rfl) | (simp [*, errW_none, errW_some] <;> rfl), bl HB.out⟩
         ·rw [if_neg c84] at H
          exact absurd H (by simp)
        ·rw [if_neg c83] at H
         exact absurd H (by simp)
       ·rw [if_neg c82] at H
        have c82b0 : (t139 == 0) = false := beq_eq_false_iff_ne.mpr c82
        have c82b1 : (t139 != 0) = true := bne_iff_ne.mpr c82
        by_cases c112 : x19_1 = t139
        ·rw [if_pos c112] at H
         have c112b0 : (x19_1 == t139) = true := beq_iff_eq.mpr c112
         have c112b1 : (x19_1 != t139) = false := bne_eq_false_iff_eq.mpr c112
         clear c112
         by_cases c113 : x19_1 = 0
         ·rw [if_pos c113] at H
          have c113b0 : (x19_1 == 0) = true := beq_iff_eq.mpr c113
          have c113b1 : (x19_1 != 0) = false := bne_eq_false_iff_eq.mpr c113
          clear c113
          obtain rfl := Option.some.inj H
          have hnb114 := NB166_101.out
          have hnc114 := NB101_166.out
          have hnb115 := NB166_114.out
          have hnc115 := NB114_166.out
          have hnb116 := NB166_127.out
          have hnc116 := NB127_166.out
          have hnb117 := NB166_140.out
          have hnc117 := NB140_166.out
          have hnb118 := NB166_153.out
          have hnc118 := NB153_166.out
          obtain ⟨hcz119_0, hcz119_1, hcz119_2, hcz119_3, hcz119_4, hcz119_5, hcz119_6, hcz119_7, hcz119_8, hcz119_9, hcz119_10⟩ := hc11 BK166.out
          obtain ⟨hfz119_0, hfz119_1, hfz119_2, hfz119_3, hfz119_4, hfz119_5, hfz119_6, hfz119_7, hfz119_8, hfz119_9, hfz119_10⟩ := hf11 BK166.out
          have hnb120 := NB140_101.out
          have hnc120 := NB101_140.out
          have hnb121 := NB140_114.out
          have hnc121 := NB114_140.out
          have hnb122 := NB140_127.out
          have hnc122 := NB127_140.out
          have hnb123 := NB140_153.out
          have hnc123 := NB153_140.out
          obtain ⟨hcz124_0, hcz124_1, hcz124_2, hcz124_3, hcz124_4, hcz124_5, hcz124_6, hcz124_7, hcz124_8, hcz124_9, hcz124_10⟩ := hc11 BK140.out
          obtain ⟨hfz124_0, hfz124_1, hfz124_2, hfz124_3, hfz124_4, hfz124_5, hfz124_6, hfz124_7, hfz124_8, hfz124_9, hfz124_10⟩ := hf11 BK140.out
          go_wp2
          go_ret
          exact ⟨by first | rfl | (simp [errW_none, errW_some] <;> rfl) | (simp [*, errW_none, errW_some] <;> rfl), bl HB.out⟩
         ·rw [if_neg c113] at H
          have c113b0 : (x19_1 == 0) = false := beq_eq_false_iff_ne.mpr c113
          have c113b1 : (x19_1 != 0) = true := bne_iff_ne.mpr c113
          obtain rfl := Option.some.inj H
          go_wp2
          go_ret
          exact ⟨by first | rfl | (simp [errW_none, errW_some] <;> rfl) | (simp [*, errW_none, errW_some] <;> rfl), bl HB.out⟩
        ·rw [if_neg c112] at H
         exact absurd H (by simp)
      ·rw [if_neg c81] at H
       exact absurd H (by simp)
     ·replace c80 := Bool.eq_false_iff.mpr c80
      subst c80
      have H1 : (none) = some r := by rw [if_neg (show ¬ (false = true) by decide)] at H; exact H
      clear H
      have H := H1
      clear H1
      exact absurd H (by simp)
    ·rw [if_neg c79] at H
     have c79b0 : (t126 == 0) = false := beq_eq_false_iff_ne.mpr c79
     have c79b1 : (t126 != 0) = true := bne_iff_ne.mpr c79
     by_cases c125 : t102 = true
     ·subst c125
      have H1 : (some (t126 == 10)) = some r := by rw [if_pos rfl] at H; exact H
      clear H
      have H := H1
      clear H1
      obtain rfl := Option.some.inj H
      go_wp2
      go_ret
      exact ⟨by first | rfl | (simp [errW_none, errW_some] <;> rfl) | (simp [*, errW_none, errW_some] <;> rfl), bl HB.out⟩
     ·replace c125 := Bool.eq_false_iff.mpr c125
      subst c125
      have H1 : (none) = some r := by rw [if_neg (show ¬ (false = true) by decide)] at H; exact H
      clear H
      have H := H1
      clear H1
      exact absurd H (by simp)

/-- THE ONE PURE STATEMENT of drachmlaw04_WorthPowers: yours. -/
def drachmlaw04_WorthPowers.Pure : Prop := ∀ (a0_0 : Int) (a0_1 : Int) (a0_2 : Int) (a0_3 : Int) (a0_4 : Int) (a0_5 : Int) (a0_6 : Int) (a0_7 : Int) (a0_8 : Int) (a0_9 : Int) (a0_10 : Int) (a1 : Int) (a2 : Int), (Lit.int .i64 a0_0).wf = true → (Lit.int .i64 a0_1).wf = true → (Lit.int .i64 a0_2).wf = true → (Lit.int .i64 a0_3).wf = true → (Lit.int .i64 a0_4).wf = true → (Lit.int .i64 a0_5).wf = true → (Lit.int .i64 a0_6).wf = true → (Lit.int .i64 a0_7).wf = true → (Lit.int .i64 a0_8).wf = true → (Lit.int .i64 a0_9).wf = true → (Lit.int .i64 a0_10).wf = true → (Lit.int .i64 a1).wf = true → (Lit.int .i64 a2).wf = true → ∃ k, drachmlaw04_WorthPowers.f k a0_0 a0_1 a0_2 a0_3 a0_4 a0_5 a0_6 a0_7 a0_8 a0_9 a0_10 a1 a2 = some true
theorem drachmlaw04_WorthPowers.walk (P : drachmlaw04_WorthPowers.Pure) (a0_0 : Int) (a0_1 : Int) (a0_2 : Int) (a0_3 : Int) (a0_4 : Int) (a0_5 : Int) (a0_6 : Int) (a0_7 : Int) (a0_8 : Int) (a0_9 : Int) (a0_10 : Int) (a1 : Int) (a2 : Int) (w : World) (hG : Glob [0, 1, 2] w) (w0_0 : (Lit.int .i64 a0_0).wf = true) (w0_1 : (Lit.int .i64 a0_1).wf = true) (w0_2 : (Lit.int .i64 a0_2).wf = true) (w0_3 : (Lit.int .i64 a0_3).wf = true) (w0_4 : (Lit.int .i64 a0_4).wf = true) (w0_5 : (Lit.int .i64 a0_5).wf = true) (w0_6 : (Lit.int .i64 a0_6).wf = true) (w0_7 : (Lit.int .i64 a0_7).wf = true) (w0_8 : (Lit.int .i64 a0_8).wf = true) (w0_9 : (Lit.int .i64 a0_9).wf = true) (w0_10 : (Lit.int .i64 a0_10).wf = true) (w1 : (Lit.int .i64 a1).wf = true) (w2 : (Lit.int .i64 a2).wf = true) :
  Calls Tryd.prog 6 #[.agg #[.int .i64 a0_0, .int .i64 a0_1, .int .i64 a0_2, .int .i64 a0_3, .int .i64 a0_4, .int .i64 a0_5, .int .i64 a0_6, .int .i64 a0_7, .int .i64 a0_8, .int .i64 a0_9, .int .i64 a0_10], .int .i64 a1, .int .i64 a2] w fun e w' => e = .returned (.bool true) ∧ Below w.heap.size w w' := by
 obtain ⟨k, h⟩ := P a0_0 a0_1 a0_2 a0_3 a0_4 a0_5 a0_6 a0_7 a0_8 a0_9 a0_10 a1 a2 w0_0 w0_1 w0_2 w0_3 w0_4 w0_5 w0_6 w0_7 w0_8 w0_9 w0_10 w1 w2
 refine (drachmlaw04_WorthPowers.calls k a0_0 a0_1 a0_2 a0_3 a0_4 a0_5 a0_6 a0_7 a0_8 a0_9 a0_10 a1 a2 true w hG h).mono ?_
 rintro e w' ⟨rfl, hd⟩
 exact ⟨rfl, hd⟩

end Go.Proofs.YthfibffgmoblaaaDoor.PWorthPowers

