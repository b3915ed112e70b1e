/- Printed by a program of this session (wip/tools/prt.py) out of the translation: plain functions, and that the calls come to just them. No conditions beyond those that stand in each theorem. -/
import Derived.Test.YthfibffgmoblaaaDoorWw
import Derived.Test.YthfibffgmoblaaaDoorSq
import Derived.Test.YthfibffgmoblaaaDoorProg
import Derived.Below
import Derived.Deep.Draws
import Derived.Deep.AppendLies
import Derived.Maps.AppendAt
import Derived.OwnWalk
import Derived.Laws.BytesArg
import Derived.Laws.MakeOwn
import Derived.Laws.OwnMore
import Derived.Deep.OwnRows
import Derived.Tactics
import Derived.Lib.ConvBytes
import Derived.Laws.Slices
import Derived.WalkKit
import Derived.KernelRfl
import Derived.RowKit3
import Derived.Deep.LoopGhost
import Derived.Deep.QuietTactic
import Derived.BigQuiet
import Derived.WideLaws
import Derived.Deep.DeepCutAuto
import Derived.Deep.CutBlock
import Derived.Deep.RegionHeld3
import Derived.Laws.Rows
import Derived.Lib.AppendStr
import Derived.ArgAppend
import Derived.Laws.IdiomCopy
import Derived.OrdersHeld
import Derived.Laws.BitsLemmas
import Derived.RowKit
import Derived.Test.YthfibffgmoblaaaDoorGlob
import Derived.Test.YthfibffgmoblaaaDoorYm
import Derived.Test.YthfibffgmoblaaaDoorPBx
import Derived.Test.YthfibffgmoblaaaDoorPCx
import Derived.Test.YthfibffgmoblaaaDoorPDx
import Derived.Test.YthfibffgmoblaaaDoorPOx
import Derived.Test.YthfibffgmoblaaaDoorPRx
import Derived.Test.YthfibffgmoblaaaDoorPSx
import Derived.Test.YthfibffgmoblaaaDoorPTx
import Derived.Test.YthfibffgmoblaaaDoorPXx
import Derived.Test.YthfibffgmoblaaaDoorPQx
namespace Go.Proofs.YthfibffgmoblaaaDoor.PWorthChains
open Go.Proofs.YthfibffgmoblaaaDoor.Sq Go.RowKit Go.Proofs.YthfibffgmoblaaaDoorW.PrintWords Go.Proofs.YthfibffgmoblaaaDoorW.PrintLast Go.Proofs.YthfibffgmoblaaaDoorW.PrintMore Go.Proofs.YthfibffgmoblaaaDoor.PB Go.Proofs.YthfibffgmoblaaaDoor.PC Go.Proofs.YthfibffgmoblaaaDoor.PD Go.Proofs.YthfibffgmoblaaaDoor.PO Go.Proofs.YthfibffgmoblaaaDoor.PR Go.Proofs.YthfibffgmoblaaaDoor.PS Go.Proofs.YthfibffgmoblaaaDoor.PT Go.Proofs.YthfibffgmoblaaaDoor.PX Go.Proofs.YthfibffgmoblaaaDoor.PQ
attribute [local go_sem] max2_int min2_int max_two min_two max_three min_three max_four min_four   -- for this text's walks alone
set_option linter.unusedVariables false
set_option linter.unusedSimpArgs false

theorem arr_cell {w : World} {g : Nat} {e : Int → Value} (o z : Nat) (l : List Int) (j : Int) (h : ∀ i, i < l.length → w.cell? ⟨g, o + i * z, none⟩ = some (e (l.getD i 0))) (h0 : 0 ≤ j) (hj : j < (l.length : Int)) : w.cell? ⟨g, o + j.toNat * z, none⟩ = some (e (rd l j)) := h j.toNat (by omega)
theorem arr_cell1 {w : World} {g : Nat} {e : Int → Value} (l : List Int) (j : Int) (h : ∀ i, i < l.length → w.cell? ⟨g, i, none⟩ = some (e (l.getD i 0))) (h0 : 0 ≤ j) (hj : j < (l.length : Int)) : w.cell? ⟨g, j.toNat, none⟩ = some (e (rd l j)) := h j.toNat (by omega)
theorem arr_cell2 {w : World} {g : Nat} {e : Int → Value} (z : Nat) (l : List Int) (j : Int) (h : ∀ i, i < l.length → w.cell? ⟨g, i * z, none⟩ = some (e (l.getD i 0))) (h0 : 0 ≤ j) (hj : j < (l.length : Int)) : w.cell? ⟨g, j.toNat * z, none⟩ = some (e (rd l j)) := h j.toNat (by omega)


def errW : Option Int → Value
 | none => .nilIface
 | some c => .iface 0 (.int .i64 c)
theorem errW_none : errW none = .nilIface := rfl
theorem errW_some (c : Int) : errW (some c) = .iface 0 (.int .i64 c) := rfl

-- the values' own types

end Go.Proofs.YthfibffgmoblaaaDoor.PWorthChains

namespace Go.Proofs.YthfibffgmoblaaaDoor.PWorthChains
open Go.Proofs.YthfibffgmoblaaaDoor.Sq Go.RowKit Go.Proofs.YthfibffgmoblaaaDoorW.PrintWords Go.Proofs.YthfibffgmoblaaaDoorW.PrintLast Go.Proofs.YthfibffgmoblaaaDoorW.PrintMore Go.Proofs.YthfibffgmoblaaaDoor.PB Go.Proofs.YthfibffgmoblaaaDoor.PC Go.Proofs.YthfibffgmoblaaaDoor.PD Go.Proofs.YthfibffgmoblaaaDoor.PO Go.Proofs.YthfibffgmoblaaaDoor.PR Go.Proofs.YthfibffgmoblaaaDoor.PS Go.Proofs.YthfibffgmoblaaaDoor.PT Go.Proofs.YthfibffgmoblaaaDoor.PX Go.Proofs.YthfibffgmoblaaaDoor.PQ
attribute [local go_sem] max2_int min2_int max_two min_two max_three min_three max_four min_four   -- for this text's walks alone
set_option linter.unusedVariables false
set_option linter.unusedSimpArgs false

theorem eqA29 (d : Nat) (w : World) (x0 y0 : Int) (x1 y1 : Int) (x2 y2 : Int) :
  (Op.equalIn (d + 2) 29 (.agg #[.int .i64 x0, .int .i64 x1, .int .i64 x2]) (.agg #[.int .i64 y0, .int .i64 y1, .int .i64 y2])).run Tryd.prog w = .ok (x0 == y0 && (x1 == y1 && (x2 == y2))) w := by
 refine eqA_of Tryd.underlying29 (by kernel_rfl) ?_
 refine eqf_cons (by rfl) (by go_simp; rfl) (by go_simp; rfl) (by go_simp) ?_
 refine eqf_cons (by rfl) (by go_simp; rfl) (by go_simp; rfl) (by go_simp) ?_
 exact eqf_last (by rfl) (by go_simp; rfl) (by go_simp; rfl) (by go_simp)
theorem eqA23 (d : Nat) (w : World) (x0 y0 : Int) (x1 y1 : Int) (x2 y2 : Int) (x3 y3 : Int) (x4 y4 : Int) (x5 y5 : Int) (x6 y6 : Int) :
  (Op.equalIn (d + 2) 23 (.agg #[.int .i64 x0, .int .i64 x1, .int .i64 x2, .int .i64 x3, .int .i64 x4, .int .i64 x5, .int .i64 x6]) (.agg #[.int .i64 y0, .int .i64 y1, .int .i64 y2, .int .i64 y3, .int .i64 y4, .int .i64 y5, .int .i64 y6])).run Tryd.prog w = .ok (x0 == y0 && (x1 == y1 && (x2 == y2 && (x3 == y3 && (x4 == y4 && (x5 == y5 && (x6 == y6))))))) w := eqA7 d w x0 y0 x1 y1 x2 y2 x3 y3 x4 y4 x5 y5 x6 y6
theorem eqA31 (d : Nat) (w : World) (x0 y0 : Int) (x1 y1 : Int) (x2 y2 : Int) (x3 y3 : Int) (x4 y4 : Int) (x5 y5 : Int) (x6 y6 : Int) (x7 y7 : Int) (x8 y8 : Int) (x9 y9 : Int) (x10 y10 : Int) :
  (Op.equalIn (d + 3) 31 (.agg #[.int .i64 x0, .int .i64 x1, .int .i64 x2, .int .i64 x3, .int .i64 x4, .int .i64 x5, .int .i64 x6, .int .i64 x7, .int .i64 x8, .int .i64 x9, .int .i64 x10]) (.agg #[.int .i64 y0, .int .i64 y1, .int .i64 y2, .int .i64 y3, .int .i64 y4, .int .i64 y5, .int .i64 y6, .int .i64 y7, .int .i64 y8, .int .i64 y9, .int .i64 y10])).run Tryd.prog w = .ok ((x0 == y0 && (x1 == y1 && (x2 == y2))) && ((x3 == y3 && (x4 == y4 && (x5 == y5 && (x6 == y6 && (x7 == y7 && (x8 == y8 && (x9 == y9))))))) && (x10 == y10))) w := by
 refine eqA_of Tryd.underlying31 (by kernel_rfl) ?_
 refine eqf_cons (by rfl) (by go_simp) (by go_simp) (eqA29 (d + 0) w _ _ _ _ _ _) ?_
 refine eqf_cons (by rfl) (by go_simp) (by go_simp) (eqA23 (d + 0) w _ _ _ _ _ _ _ _ _ _ _ _ _ _) ?_
 exact eqf_last (by rfl) (by go_simp; rfl) (by go_simp; rfl) (by go_simp)
end Go.Proofs.YthfibffgmoblaaaDoor.PWorthChains

namespace Go.Proofs.YthfibffgmoblaaaDoor.PWorthChains
open Go.Proofs.YthfibffgmoblaaaDoor.Sq Go.RowKit Go.Proofs.YthfibffgmoblaaaDoorW.PrintWords Go.Proofs.YthfibffgmoblaaaDoorW.PrintLast Go.Proofs.YthfibffgmoblaaaDoorW.PrintMore Go.Proofs.YthfibffgmoblaaaDoor.PB Go.Proofs.YthfibffgmoblaaaDoor.PC Go.Proofs.YthfibffgmoblaaaDoor.PD Go.Proofs.YthfibffgmoblaaaDoor.PO Go.Proofs.YthfibffgmoblaaaDoor.PR Go.Proofs.YthfibffgmoblaaaDoor.PS Go.Proofs.YthfibffgmoblaaaDoor.PT Go.Proofs.YthfibffgmoblaaaDoor.PX Go.Proofs.YthfibffgmoblaaaDoor.PQ
attribute [local go_sem] max2_int min2_int max_two min_two max_three min_three max_four min_four   -- for this text's walks alone
set_option linter.unusedVariables false
set_option linter.unusedSimpArgs false

attribute [local go_sem high] eqA31
/-! ### drachmlaw04_WorthChains: function 4 -/
def drachmlaw04_WorthChains.j0 : Nat → Bool → Int → Int → Bool → Int → Int → Int → Int → Int → Int → Int → Int → Int → Int → Int → Int → Int → Int → Int → Int → Int → Int → Int → Int → Int → Int → Int → Int → Int → Int → Int → Int → Int → Int → Int → Int → Int → Int → Int → Int → Int → Int → Int → Int → Int → Int → Int → Int → Option (Bool)
 | 0, _, _, _, _, _, _, _, _, _, _, _, _, _, _, _, _, _, _, _, _, _, _, _, _, _, _, _, _, _, _, _, _, _, _, _, _, _, _, _, _, _, _, _, _, _, _, _, _ => none
 | k + 1, x3, x9, x11, x50, x115000, x115001, x115002, x115003, x115004, x115005, x115006, x115007, x115008, x115009, x115010, x139000, x139001, x139002, x139003, x139004, x139005, x139006, x139007, x139008, x139009, x139010, x152000, x152001, x152002, x152003, x152004, x152005, x152006, x152007, x152008, x152009, x152010, x165000, x165001, x165002, x165003, x165004, x165005, x165006, x165007, x165008, x165009, x165010 => if x50 = true then (if x3 = true then (if x9 = 0 then (if x11 = 0 then (some true) else (some (x11 == 10))) else (if x9 = 10 then (if x11 = 0 then (some true) else (some (x11 == 10))) else (none))) else (none)) else ((worth_Mul.f k x152000 x152001 x152002 x152003 x152004 x152005 x152006 x152007 x152008 x152009 x152010 x139000 x139001 x139002 x139003 x139004 x139005 x139006 x139007 x139008 x139009 x139010).bind fun bt165 => ((worth_Mul.f k x115000 x115001 x115002 x115003 x115004 x115005 x115006 x115007 x115008 x115009 x115010 x165000 x165001 x165002 x165003 x165004 x165005 x165006 x165007 x165008 x165009 x165010).bind fun bt178 => (if x3 = true then (if ((bt165.1 == bt178.1 && (bt165.2.1 == bt178.2.1 && (bt165.2.2.1 == bt178.2.2.1))) && ((bt165.2.2.2.1 == bt178.2.2.2.1 && (bt165.2.2.2.2.1 == bt178.2.2.2.2.1 && (bt165.2.2.2.2.2.1 == bt178.2.2.2.2.2.1 && (bt165.2.2.2.2.2.2.1 == bt178.2.2.2.2.2.2.1 && (bt165.2.2.2.2.2.2.2.1 == bt178.2.2.2.2.2.2.2.1 && (bt165.2.2.2.2.2.2.2.2.1 == bt178.2.2.2.2.2.2.2.2.1 && (bt165.2.2.2.2.2.2.2.2.2.1 == bt178.2.2.2.2.2.2.2.2.2.1))))))) && (bt165.2.2.2.2.2.2.2.2.2.2.1 == bt178.2.2.2.2.2.2.2.2.2.2.1))) = true then (some (bt165.2.2.2.2.2.2.2.2.2.2.2 == bt178.2.2.2.2.2.2.2.2.2.2.2)) else (none)) else (none))))
def drachmlaw04_WorthChains.f (k : Nat) (a0_0 : Int) (a0_1 : Int) (a0_2 : Int) (a0_3 : Int) (a0_4 : Int) (a0_5 : Int) (a0_6 : Int) (a0_7 : Int) (a0_8 : Int) (a0_9 : Int) (a0_10 : Int) (a0_11 : Int) (a0_12 : Int) (a0_13 : Int) (a0_14 : Int) (a0_15 : Int) (a0_16 : Int) (a0_17 : Int) (a0_18 : Int) (a0_19 : Int) (a0_20 : Int) (a0_21 : Int) (a0_22 : Int) (a0_23 : Int) (a0_24 : Int) (a0_25 : Int) (a0_26 : Int) (a0_27 : Int) (a0_28 : Int) (a0_29 : Int) (a0_30 : Int) (a0_31 : Int) (a0_32 : Int) : Option (Bool) := (drachmlaw04_awake.f k).bind fun t102 => ((drachmref04_Spec_Worth.f k a0_0 a0_1 a0_2 a0_3 a0_4 a0_5 a0_6 a0_7 a0_8 a0_9 0).bind fun bt103 => ((drachmref04_Spec_Worth.f k a0_11 a0_12 a0_13 a0_14 a0_15 a0_16 a0_17 a0_18 a0_19 a0_20 0).bind fun bt115 => ((drachmref04_Spec_Worth.f k a0_22 a0_23 a0_24 a0_25 a0_26 a0_27 a0_28 a0_29 a0_30 a0_31 0).bind fun bt127 => ((worth_Mul.f k bt103.1 bt103.2.1 bt103.2.2.1 bt103.2.2.2.1 bt103.2.2.2.2.1 bt103.2.2.2.2.2.1 bt103.2.2.2.2.2.2.1 bt103.2.2.2.2.2.2.2.1 bt103.2.2.2.2.2.2.2.2.1 bt103.2.2.2.2.2.2.2.2.2.1 bt103.2.2.2.2.2.2.2.2.2.2 bt115.1 bt115.2.1 bt115.2.2.1 bt115.2.2.2.1 bt115.2.2.2.2.1 bt115.2.2.2.2.2.1 bt115.2.2.2.2.2.2.1 bt115.2.2.2.2.2.2.2.1 bt115.2.2.2.2.2.2.2.2.1 bt115.2.2.2.2.2.2.2.2.2.1 bt115.2.2.2.2.2.2.2.2.2.2).bind fun bt139 => ((worth_Mul.f k bt115.1 bt115.2.1 bt115.2.2.1 bt115.2.2.2.1 bt115.2.2.2.2.1 bt115.2.2.2.2.2.1 bt115.2.2.2.2.2.2.1 bt115.2.2.2.2.2.2.2.1 bt115.2.2.2.2.2.2.2.2.1 bt115.2.2.2.2.2.2.2.2.2.1 bt115.2.2.2.2.2.2.2.2.2.2 bt127.1 bt127.2.1 bt127.2.2.1 bt127.2.2.2.1 bt127.2.2.2.2.1 bt127.2.2.2.2.2.1 bt127.2.2.2.2.2.2.1 bt127.2.2.2.2.2.2.2.1 bt127.2.2.2.2.2.2.2.2.1 bt127.2.2.2.2.2.2.2.2.2.1 bt127.2.2.2.2.2.2.2.2.2.2).bind fun bt152 => (if bt139.2.2.2.2.2.2.2.2.2.2.2 = 0 then (drachmlaw04_WorthChains.j0 k t102 bt139.2.2.2.2.2.2.2.2.2.2.2 bt152.2.2.2.2.2.2.2.2.2.2.2 (bt152.2.2.2.2.2.2.2.2.2.2.2 != 0) bt103.1 bt103.2.1 bt103.2.2.1 bt103.2.2.2.1 bt103.2.2.2.2.1 bt103.2.2.2.2.2.1 bt103.2.2.2.2.2.2.1 bt103.2.2.2.2.2.2.2.1 bt103.2.2.2.2.2.2.2.2.1 bt103.2.2.2.2.2.2.2.2.2.1 bt103.2.2.2.2.2.2.2.2.2.2 bt127.1 bt127.2.1 bt127.2.2.1 bt127.2.2.2.1 bt127.2.2.2.2.1 bt127.2.2.2.2.2.1 bt127.2.2.2.2.2.2.1 bt127.2.2.2.2.2.2.2.1 bt127.2.2.2.2.2.2.2.2.1 bt127.2.2.2.2.2.2.2.2.2.1 bt127.2.2.2.2.2.2.2.2.2.2 bt139.1 bt139.2.1 bt139.2.2.1 bt139.2.2.2.1 bt139.2.2.2.2.1 bt139.2.2.2.2.2.1 bt139.2.2.2.2.2.2.1 bt139.2.2.2.2.2.2.2.1 bt139.2.2.2.2.2.2.2.2.1 bt139.2.2.2.2.2.2.2.2.2.1 bt139.2.2.2.2.2.2.2.2.2.2.1 bt152.1 bt152.2.1 bt152.2.2.1 bt152.2.2.2.1 bt152.2.2.2.2.1 bt152.2.2.2.2.2.1 bt152.2.2.2.2.2.2.1 bt152.2.2.2.2.2.2.2.1 bt152.2.2.2.2.2.2.2.2.1 bt152.2.2.2.2.2.2.2.2.2.1 bt152.2.2.2.2.2.2.2.2.2.2.1) else (drachmlaw04_WorthChains.j0 k t102 bt139.2.2.2.2.2.2.2.2.2.2.2 bt152.2.2.2.2.2.2.2.2.2.2.2 true bt103.1 bt103.2.1 bt103.2.2.1 bt103.2.2.2.1 bt103.2.2.2.2.1 bt103.2.2.2.2.2.1 bt103.2.2.2.2.2.2.1 bt103.2.2.2.2.2.2.2.1 bt103.2.2.2.2.2.2.2.2.1 bt103.2.2.2.2.2.2.2.2.2.1 bt103.2.2.2.2.2.2.2.2.2.2 bt127.1 bt127.2.1 bt127.2.2.1 bt127.2.2.2.1 bt127.2.2.2.2.1 bt127.2.2.2.2.2.1 bt127.2.2.2.2.2.2.1 bt127.2.2.2.2.2.2.2.1 bt127.2.2.2.2.2.2.2.2.1 bt127.2.2.2.2.2.2.2.2.2.1 bt127.2.2.2.2.2.2.2.2.2.2 bt139.1 bt139.2.1 bt139.2.2.1 bt139.2.2.2.1 bt139.2.2.2.2.1 bt139.2.2.2.2.2.1 bt139.2.2.2.2.2.2.1 bt139.2.2.2.2.2.2.2.1 bt139.2.2.2.2.2.2.2.2.1 bt139.2.2.2.2.2.2.2.2.2.1 bt139.2.2.2.2.2.2.2.2.2.2.1 bt152.1 bt152.2.1 bt152.2.2.1 bt152.2.2.2.1 bt152.2.2.2.2.1 bt152.2.2.2.2.2.1 bt152.2.2.2.2.2.2.1 bt152.2.2.2.2.2.2.2.1 bt152.2.2.2.2.2.2.2.2.1 bt152.2.2.2.2.2.2.2.2.2.1 bt152.2.2.2.2.2.2.2.2.2.2.1)))))))
theorem drachmlaw04_WorthChains.mono_l : ∀ k, (∀ y0 y1 y2 y3 y4 y5 y6 y7 y8 y9 y10 y11 y12 y13 y14 y15 y16 y17 y18 y19 y20 y21 y22 y23 y24 y25 y26 y27 y28 y29 y30 y31 y32 y33 y34 y35 y36 y37 y38 y39 y40 y41 y42 y43 y44 y45 y46 y47, LeO (drachmlaw04_WorthChains.j0 k y0 y1 y2 y3 y4 y5 y6 y7 y8 y9 y10 y11 y12 y13 y14 y15 y16 y17 y18 y19 y20 y21 y22 y23 y24 y25 y26 y27 y28 y29 y30 y31 y32 y33 y34 y35 y36 y37 y38 y39 y40 y41 y42 y43 y44 y45 y46 y47) (drachmlaw04_WorthChains.j0 (k + 1) y0 y1 y2 y3 y4 y5 y6 y7 y8 y9 y10 y11 y12 y13 y14 y15 y16 y17 y18 y19 y20 y21 y22 y23 y24 y25 y26 y27 y28 y29 y30 y31 y32 y33 y34 y35 y36 y37 y38 y39 y40 y41 y42 y43 y44 y45 y46 y47))
 | 0 => fun _ _ _ _ _ _ _ _ _ _ _ _ _ _ _ _ _ _ _ _ _ _ _ _ _ _ _ _ _ _ _ _ _ _ _ _ _ _ _ _ _ _ _ _ _ _ _ _ r h => by simp [drachmlaw04_WorthChains.j0] at h
 | k + 1 => by
  have ih0 := drachmlaw04_WorthChains.mono_l k
  ·intro y0 y1 y2 y3 y4 y5 y6 y7 y8 y9 y10 y11 y12 y13 y14 y15 y16 y17 y18 y19 y20 y21 y22 y23 y24 y25 y26 y27 y28 y29 y30 y31 y32 y33 y34 y35 y36 y37 y38 y39 y40 y41 y42 y43 y44 y45 y46 y47
   unfold drachmlaw04_WorthChains.j0
   repeat' first
   | (with_reducible exact ih0 _ _ _ _ _ _ _ _ _ _ _ _ _ _ _ _ _ _ _ _ _ _ _ _ _ _ _ _ _ _ _ _ _ _ _ _ _ _ _ _ _ _ _ _ _ _ _ _)
   | (with_reducible exact drachmlaw04_awake.mono _)
   | (with_reducible exact drachmref04_Spec_Worth.mono _ _ _ _ _ _ _ _ _ _ _ _)
   | (with_reducible exact worth_Mul.mono _ _ _ _ _ _ _ _ _ _ _ _ _ _ _ _ _ _ _ _ _ _ _)
   | (with_reducible exact LeO.refl _)
   | (with_reducible exact LeO.none _)
   | (with_reducible refine LeO.ite ?_ ?_)
   | (with_reducible refine LeO.bind ?_ (fun _ => ?_))
   | exact ih0 _ _ _ _ _ _ _ _ _ _ _ _ _ _ _ _ _ _ _ _ _ _ _ _ _ _ _ _ _ _ _ _ _ _ _ _ _ _ _ _ _ _ _ _ _ _ _ _
   | exact drachmlaw04_awake.mono _
   | exact drachmref04_Spec_Worth.mono _ _ _ _ _ _ _ _ _ _ _ _
   | exact worth_Mul.mono _ _ _ _ _ _ _ _ _ _ _ _ _ _ _ _ _ _ _ _ _ _ _
   | exact LeO.none _
   | refine LeO.ite ?_ ?_
   | refine LeO.bind ?_ (fun _ => ?_)
theorem drachmlaw04_WorthChains.mono : ∀ a0 a1 a2 a3 a4 a5 a6 a7 a8 a9 a10 a11 a12 a13 a14 a15 a16 a17 a18 a19 a20 a21 a22 a23 a24 a25 a26 a27 a28 a29 a30 a31 a32 k, LeO (drachmlaw04_WorthChains.f k a0 a1 a2 a3 a4 a5 a6 a7 a8 a9 a10 a11 a12 a13 a14 a15 a16 a17 a18 a19 a20 a21 a22 a23 a24 a25 a26 a27 a28 a29 a30 a31 a32) (drachmlaw04_WorthChains.f (k + 1) a0 a1 a2 a3 a4 a5 a6 a7 a8 a9 a10 a11 a12 a13 a14 a15 a16 a17 a18 a19 a20 a21 a22 a23 a24 a25 a26 a27 a28 a29 a30 a31 a32) := by
 intro a0 a1 a2 a3 a4 a5 a6 a7 a8 a9 a10 a11 a12 a13 a14 a15 a16 a17 a18 a19 a20 a21 a22 a23 a24 a25 a26 a27 a28 a29 a30 a31 a32 k
 have ih0 := drachmlaw04_WorthChains.mono_l k
 unfold drachmlaw04_WorthChains.f
 repeat' first
   | (with_reducible exact ih0 _ _ _ _ _ _ _ _ _ _ _ _ _ _ _ _ _ _ _ _ _ _ _ _ _ _ _ _ _ _ _ _ _ _ _ _ _ _ _ _ _ _ _ _ _ _ _ _)
   | (with_reducible exact drachmlaw04_awake.mono _)
   | (with_reducible exact drachmref04_Spec_Worth.mono _ _ _ _ _ _ _ _ _ _ _ _)
   | (with_reducible exact worth_Mul.mono _ _ _ _ _ _ _ _ _ _ _ _ _ _ _ _ _ _ _ _ _ _ _)
   | (with_reducible exact LeO.refl _)
   | (with_reducible exact LeO.none _)
   | (with_reducible refine LeO.ite ?_ ?_)
   | (with_reducible refine LeO.bind ?_ (fun _ => ?_))
   | exact ih0 _ _ _ _ _ _ _ _ _ _ _ _ _ _ _ _ _ _ _ _ _ _ _ _ _ _ _ _ _ _ _ _ _ _ _ _ _ _ _ _ _ _ _ _ _ _ _ _
   | exact drachmlaw04_awake.mono _
   | exact drachmref04_Spec_Worth.mono _ _ _ _ _ _ _ _ _ _ _ _
   | exact worth_Mul.mono _ _ _ _ _ _ _ _ _ _ _ _ _ _ _ _ _ _ _ _ _ _ _
   | exact LeO.none _
   | refine LeO.ite ?_ ?_
   | refine LeO.bind ?_ (fun _ => ?_)
set_option maxHeartbeats 8000000 in
set_option maxRecDepth 100000 in
theorem drachmlaw04_WorthChains.calls (k : Nat) (a0_0 : Int) (a0_1 : Int) (a0_2 : Int) (a0_3 : Int) (a0_4 : Int) (a0_5 : Int) (a0_6 : Int) (a0_7 : Int) (a0_8 : Int) (a0_9 : Int) (a0_10 : Int) (a0_11 : Int) (a0_12 : Int) (a0_13 : Int) (a0_14 : Int) (a0_15 : Int) (a0_16 : Int) (a0_17 : Int) (a0_18 : Int) (a0_19 : Int) (a0_20 : Int) (a0_21 : Int) (a0_22 : Int) (a0_23 : Int) (a0_24 : Int) (a0_25 : Int) (a0_26 : Int) (a0_27 : Int) (a0_28 : Int) (a0_29 : Int) (a0_30 : Int) (a0_31 : Int) (a0_32 : Int) (r : Bool) (w : World) (hG : Glob [1, 2] w) (h : drachmlaw04_WorthChains.f k a0_0 a0_1 a0_2 a0_3 a0_4 a0_5 a0_6 a0_7 a0_8 a0_9 a0_10 a0_11 a0_12 a0_13 a0_14 a0_15 a0_16 a0_17 a0_18 a0_19 a0_20 a0_21 a0_22 a0_23 a0_24 a0_25 a0_26 a0_27 a0_28 a0_29 a0_30 a0_31 a0_32 = some r) :
  Calls Tryd.prog 4 #[.agg #[.int .i64 a0_0, .int .i64 a0_1, .int .i64 a0_2, .int .i64 a0_3, .int .i64 a0_4, .int .i64 a0_5, .int .i64 a0_6, .int .i64 a0_7, .int .i64 a0_8, .int .i64 a0_9, .int .i64 a0_10, .int .i64 a0_11, .int .i64 a0_12, .int .i64 a0_13, .int .i64 a0_14, .int .i64 a0_15, .int .i64 a0_16, .int .i64 a0_17, .int .i64 a0_18, .int .i64 a0_19, .int .i64 a0_20, .int .i64 a0_21, .int .i64 a0_22, .int .i64 a0_23, .int .i64 a0_24, .int .i64 a0_25, .int .i64 a0_26, .int .i64 a0_27, .int .i64 a0_28, .int .i64 a0_29, .int .i64 a0_30, .int .i64 a0_31, .int .i64 a0_32]] w fun e w' => e = .returned (.bool r) ∧ Below w.heap.size w w' := by
 have hu36 := Tryd.underlying36
 have hu25 := Tryd.underlying25
 have hu31 := Tryd.underlying31
 have hsd : ∀ (W : World) (n_ : Nat) (a_ : Addr) (v_ : Value), (W.drewN n_).setCell a_ v_ = (W.setCell a_ v_).drewN n_ := fun _ _ _ _ => rfl
 have HB := Aside0.mk (Below.refl w.heap.size w)
 have H : ((drachmlaw04_awake.f k).bind fun t102 => ((drachmref04_Spec_Worth.f k a0_0 a0_1 a0_2 a0_3 a0_4 a0_5 a0_6 a0_7 a0_8 a0_9 0).bind fun bt103 => ((drachmref04_Spec_Worth.f k a0_11 a0_12 a0_13 a0_14 a0_15 a0_16 a0_17 a0_18 a0_19 a0_20 0).bind fun bt115 => ((drachmref04_Spec_Worth.f k a0_22 a0_23 a0_24 a0_25 a0_26 a0_27 a0_28 a0_29 a0_30 a0_31 0).bind fun bt127 => ((worth_Mul.f k bt103.1 bt103.2.1 bt103.2.2.1 bt103.2.2.2.1 bt103.2.2.2.2.1 bt103.2.2.2.2.2.1 bt103.2.2.2.2.2.2.1 bt103.2.2.2.2.2.2.2.1 bt103.2.2.2.2.2.2.2.2.1 bt103.2.2.2.2.2.2.2.2.2.1 bt103.2.2.2.2.2.2.2.2.2.2 bt115.1 bt115.2.1 bt115.2.2.1 bt115.2.2.2.1 bt115.2.2.2.2.1 bt115.2.2.2.2.2.1 bt115.2.2.2.2.2.2.1 bt115.2.2.2.2.2.2.2.1 bt115.2.2.2.2.2.2.2.2.1 bt115.2.2.2.2.2.2.2.2.2.1 bt115.2.2.2.2.2.2.2.2.2.2).bind fun bt139 => ((worth_Mul.f k bt115.1 bt115.2.1 bt115.2.2.1 bt115.2.2.2.1 bt115.2.2.2.2.1 bt115.2.2.2.2.2.1 bt115.2.2.2.2.2.2.1 bt115.2.2.2.2.2.2.2.1 bt115.2.2.2.2.2.2.2.2.1 bt115.2.2.2.2.2.2.2.2.2.1 bt115.2.2.2.2.2.2.2.2.2.2 bt127.1 bt127.2.1 bt127.2.2.1 bt127.2.2.2.1 bt127.2.2.2.2.1 bt127.2.2.2.2.2.1 bt127.2.2.2.2.2.2.1 bt127.2.2.2.2.2.2.2.1 bt127.2.2.2.2.2.2.2.2.1 bt127.2.2.2.2.2.2.2.2.2.1 bt127.2.2.2.2.2.2.2.2.2.2).bind fun bt152 => (if bt139.2.2.2.2.2.2.2.2.2.2.2 = 0 then (drachmlaw04_WorthChains.j0 k t102 bt139.2.2.2.2.2.2.2.2.2.2.2 bt152.2.2.2.2.2.2.2.2.2.2.2 (bt152.2.2.2.2.2.2.2.2.2.2.2 != 0) bt103.1 bt103.2.1 bt103.2.2.1 bt103.2.2.2.1 bt103.2.2.2.2.1 bt103.2.2.2.2.2.1 bt103.2.2.2.2.2.2.1 bt103.2.2.2.2.2.2.2.1 bt103.2.2.2.2.2.2.2.2.1 bt103.2.2.2.2.2.2.2.2.2.1 bt103.2.2.2.2.2.2.2.2.2.2 bt127.1 bt127.2.1 bt127.2.2.1 bt127.2.2.2.1 bt127.2.2.2.2.1 bt127.2.2.2.2.2.1 bt127.2.2.2.2.2.2.1 bt127.2.2.2.2.2.2.2.1 bt127.2.2.2.2.2.2.2.2.1 bt127.2.2.2.2.2.2.2.2.2.1 bt127.2.2.2.2.2.2.2.2.2.2 bt139.1 bt139.2.1 bt139.2.2.1 bt139.2.2.2.1 bt139.2.2.2.2.1 bt139.2.2.2.2.2.1 bt139.2.2.2.2.2.2.1 bt139.2.2.2.2.2.2.2.1 bt139.2.2.2.2.2.2.2.2.1 bt139.2.2.2.2.2.2.2.2.2.1 bt139.2.2.2.2.2.2.2.2.2.2.1 bt152.1 bt152.2.1 bt152.2.2.1 bt152.2.2.2.1 bt152.2.2.2.2.1 bt152.2.2.2.2.2.1 bt152.2.2.2.2.2.2.1 bt152.2.2.2.2.2.2.2.1 bt152.2.2.2.2.2.2.2.2.1 bt152.2.2.2.2.2.2.2.2.2.1 bt152.2.2.2.2.2.2.2.2.2.2.1) else (drachmlaw04_WorthChains.j0 k t102 bt139.2.2.2.2.2.2.2.2.2.2.2 bt152.2.2.2.2.2.2.2.2.2.2.2 true bt103.1 bt103.2.1 bt103.2.2.1 bt103.2.2.2.1 bt103.2.2.2.2.1 bt103.2.2.2.2.2.1 bt103.2.2.2.2.2.2.1 bt103.2.2.2.2.2.2.2.1 bt103.2.2.2.2.2.2.2.2.1 bt103.2.2.2.2.2.2.2.2.2.1 bt103.2.2.2.2.2.2.2.2.2.2 bt127.1 bt127.2.1 bt127.2.2.1 bt127.2.2.2.1 bt127.2.2.2.2.1 bt127.2.2.2.2.2.1 bt127.2.2.2.2.2.2.1 bt127.2.2.2.2.2.2.2.1 bt127.2.2.2.2.2.2.2.2.1 bt127.2.2.2.2.2.2.2.2.2.1 bt127.2.2.2.2.2.2.2.2.2.2 bt139.1 bt139.2.1 bt139.2.2.1 bt139.2.2.2.1 bt139.2.2.2.2.1 bt139.2.2.2.2.2.1 bt139.2.2.2.2.2.2.1 bt139.2.2.2.2.2.2.2.1 bt139.2.2.2.2.2.2.2.2.1 bt139.2.2.2.2.2.2.2.2.2.1 bt139.2.2.2.2.2.2.2.2.2.2.1 bt152.1 bt152.2.1 bt152.2.2.1 bt152.2.2.2.1 bt152.2.2.2.2.1 bt152.2.2.2.2.2.1 bt152.2.2.2.2.2.2.1 bt152.2.2.2.2.2.2.2.1 bt152.2.2.2.2.2.2.2.2.1 bt152.2.2.2.2.2.2.2.2.2.1 bt152.2.2.2.2.2.2.2.2.2.2.1)))))))) = some r := h
 clear h
 replace H := Option.bind_eq_some_iff.mp H
 obtain ⟨t102, A20, H⟩ := H
 replace H : ((drachmref04_Spec_Worth.f k a0_0 a0_1 a0_2 a0_3 a0_4 a0_5 a0_6 a0_7 a0_8 a0_9 0).bind fun bt103 => ((drachmref04_Spec_Worth.f k a0_11 a0_12 a0_13 a0_14 a0_15 a0_16 a0_17 a0_18 a0_19 a0_20 0).bind fun bt115 => ((drachmref04_Spec_Worth.f k a0_22 a0_23 a0_24 a0_25 a0_26 a0_27 a0_28 a0_29 a0_30 a0_31 0).bind fun bt127 => ((worth_Mul.f k bt103.1 bt103.2.1 bt103.2.2.1 bt103.2.2.2.1 bt103.2.2.2.2.1 bt103.2.2.2.2.2.1 bt103.2.2.2.2.2.2.1 bt103.2.2.2.2.2.2.2.1 bt103.2.2.2.2.2.2.2.2.1 bt103.2.2.2.2.2.2.2.2.2.1 bt103.2.2.2.2.2.2.2.2.2.2 bt115.1 bt115.2.1 bt115.2.2.1 bt115.2.2.2.1 bt115.2.2.2.2.1 bt115.2.2.2.2.2.1 bt115.2.2.2.2.2.2.1 bt115.2.2.2.2.2.2.2.1 bt115.2.2.2.2.2.2.2.2.1 bt115.2.2.2.2.2.2.2.2.2.1 bt115.2.2.2.2.2.2.2.2.2.2).bind fun bt139 => ((worth_Mul.f k bt115.1 bt115.2.1 bt115.2.2.1 bt115.2.2.2.1 bt115.2.2.2.2.1 bt115.2.2.2.2.2.1 bt115.2.2.2.2.2.2.1 bt115.2.2.2.2.2.2.2.1 bt115.2.2.2.2.2.2.2.2.1 bt115.2.2.2.2.2.2.2.2.2.1 bt115.2.2.2.2.2.2.2.2.2.2 bt127.1 bt127.2.1 bt127.2.2.1 bt127.2.2.2.1 bt127.2.2.2.2.1 bt127.2.2.2.2.2.1 bt127.2.2.2.2.2.2.1 bt127.2.2.2.2.2.2.2.1 bt127.2.2.2.2.2.2.2.2.1 bt127.2.2.2.2.2.2.2.2.2.1 bt127.2.2.2.2.2.2.2.2.2.2).bind fun bt152 => (if bt139.2.2.2.2.2.2.2.2.2.2.2 = 0 then (drachmlaw04_WorthChains.j0 k t102 bt139.2.2.2.2.2.2.2.2.2.2.2 bt152.2.2.2.2.2.2.2.2.2.2.2 (bt152.2.2.2.2.2.2.2.2.2.2.2 != 0) bt103.1 bt103.2.1 bt103.2.2.1 bt103.2.2.2.1 bt103.2.2.2.2.1 bt103.2.2.2.2.2.1 bt103.2.2.2.2.2.2.1 bt103.2.2.2.2.2.2.2.1 bt103.2.2.2.2.2.2.2.2.1 bt103.2.2.2.2.2.2.2.2.2.1 bt103.2.2.2.2.2.2.2.2.2.2 bt127.1 bt127.2.1 bt127.2.2.1 bt127.2.2.2.1 bt127.2.2.2.2.1 bt127.2.2.2.2.2.1 bt127.2.2.2.2.2.2.1 bt127.2.2.2.2.2.2.2.1 bt127.2.2.2.2.2.2.2.2.1 bt127.2.2.2.2.2.2.2.2.2.1 bt127.2.2.2.2.2.2.2.2.2.2 bt139.1 bt139.2.1 bt139.2.2.1 bt139.2.2.2.1 bt139.2.2.2.2.1 bt139.2.2.2.2.2.1 bt139.2.2.2.2.2.2.1 bt139.2.2.2.2.2.2.2.1 bt139.2.2.2.2.2.2.2.2.1 bt139.2.2.2.2.2.2.2.2.2.1 bt139.2.2.2.2.2.2.2.2.2.2.1 bt152.1 bt152.2.1 bt152.2.2.1 bt152.2.2.2.1 bt152.2.2.2.2.1 bt152.2.2.2.2.2.1 bt152.2.2.2.2.2.2.1 bt152.2.2.2.2.2.2.2.1 bt152.2.2.2.2.2.2.2.2.1 bt152.2.2.2.2.2.2.2.2.2.1 bt152.2.2.2.2.2.2.2.2.2.2.1) else (drachmlaw04_WorthChains.j0 k t102 bt139.2.2.2.2.2.2.2.2.2.2.2 bt152.2.2.2.2.2.2.2.2.2.2.2 true bt103.1 bt103.2.1 bt103.2.2.1 bt103.2.2.2.1 bt103.2.2.2.2.1 bt103.2.2.2.2.2.1 bt103.2.2.2.2.2.2.1 bt103.2.2.2.2.2.2.2.1 bt103.2.2.2.2.2.2.2.2.1 bt103.2.2.2.2.2.2.2.2.2.1 bt103.2.2.2.2.2.2.2.2.2.2 bt127.1 bt127.2.1 bt127.2.2.1 bt127.2.2.2.1 bt127.2.2.2.2.1 bt127.2.2.2.2.2.1 bt127.2.2.2.2.2.2.1 bt127.2.2.2.2.2.2.2.1 bt127.2.2.2.2.2.2.2.2.1 bt127.2.2.2.2.2.2.2.2.2.1 bt127.2.2.2.2.2.2.2.2.2.2 bt139.1 bt139.2.1 bt139.2.2.1 bt139.2.2.2.1 bt139.2.2.2.2.1 bt139.2.2.2.2.2.1 bt139.2.2.2.2.2.2.1 bt139.2.2.2.2.2.2.2.1 bt139.2.2.2.2.2.2.2.2.1 bt139.2.2.2.2.2.2.2.2.2.1 bt139.2.2.2.2.2.2.2.2.2.2.1 bt152.1 bt152.2.1 bt152.2.2.1 bt152.2.2.2.1 bt152.2.2.2.2.1 bt152.2.2.2.2.2.1 bt152.2.2.2.2.2.2.1 bt152.2.2.2.2.2.2.2.1 bt152.2.2.2.2.2.2.2.2.1 bt152.2.2.2.2.2.2.2.2.2.1 bt152.2.2.2.2.2.2.2.2.2.2.1))))))) = some r := H
 have A2 := Aside0.mk A20
 clear A20
 replace H := Option.bind_eq_some_iff.mp H
 obtain ⟨⟨t103, t104, t105, t106, t107, t108, t109, t110, t111, t112, t113⟩, A30, H⟩ := H
 replace H : ((drachmref04_Spec_Worth.f k a0_11 a0_12 a0_13 a0_14 a0_15 a0_16 a0_17 a0_18 a0_19 a0_20 0).bind fun bt115 => ((drachmref04_Spec_Worth.f k a0_22 a0_23 a0_24 a0_25 a0_26 a0_27 a0_28 a0_29 a0_30 a0_31 0).bind fun bt127 => ((worth_Mul.f k t103 t104 t105 t106 t107 t108 t109 t110 t111 t112 t113 bt115.1 bt115.2.1 bt115.2.2.1 bt115.2.2.2.1 bt115.2.2.2.2.1 bt115.2.2.2.2.2.1 bt115.2.2.2.2.2.2.1 bt115.2.2.2.2.2.2.2.1 bt115.2.2.2.2.2.2.2.2.1 bt115.2.2.2.2.2.2.2.2.2.1 bt115.2.2.2.2.2.2.2.2.2.2).bind fun bt139 => ((worth_Mul.f k bt115.1 bt115.2.1 bt115.2.2.1 bt115.2.2.2.1 bt115.2.2.2.2.1 bt115.2.2.2.2.2.1 bt115.2.2.2.2.2.2.1 bt115.2.2.2.2.2.2.2.1 bt115.2.2.2.2.2.2.2.2.1 bt115.2.2.2.2.2.2.2.2.2.1 bt115.2.2.2.2.2.2.2.2.2.2 bt127.1 bt127.2.1 bt127.2.2.1 bt127.2.2.2.1 bt127.2.2.2.2.1 bt127.2.2.2.2.2.1 bt127.2.2.2.2.2.2.1 bt127.2.2.2.2.2.2.2.1 bt127.2.2.2.2.2.2.2.2.1 bt127.2.2.2.2.2.2.2.2.2.1 bt127.2.2.2.2.2.2.2.2.2.2).bind fun bt152 => (if bt139.2.2.2.2.2.2.2.2.2.2.2 = 0 then (drachmlaw04_WorthChains.j0 k t102 bt139.2.2.2.2.2.2.2.2.2.2.2 bt152.2.2.2.2.2.2.2.2.2.2.2 (bt152.2.2.2.2.2.2.2.2.2.2.2 != 0) t103 t104 t105 t106 t107 t108 t109 t110 t111 t112 t113 bt127.1 bt127.2.1 bt127.2.2.1 bt127.2.2.2.1 bt127.2.2.2.2.1 bt127.2.2.2.2.2.1 bt127.2.2.2.2.2.2.1 bt127.2.2.2.2.2.2.2.1 bt127.2.2.2.2.2.2.2.2.1 bt127.2.2.2.2.2.2.2.2.2.1 bt127.2.2.2.2.2.2.2.2.2.2 bt139.1 bt139.2.1 bt139.2.2.1 bt139.2.2.2.1 bt139.2.2.2.2.1 bt139.2.2.2.2.2.1 bt139.2.2.2.2.2.2.1 bt139.2.2.2.2.2.2.2.1 bt139.2.2.2.2.2.2.2.2.1 bt139.2.2.2.2.2.2.2.2.2.1 bt139.2.2.2.2.2.2.2.2.2.2.1 bt152.1 bt152.2.1 bt152.2.2.1 bt152.2.2.2.1 bt152.2.2.2.2.1 bt152.2.2.2.2.2.1 bt152.2.2.2.2.2.2.1 bt152.2.2.2.2.2.2.2.1 bt152.2.2.2.2.2.2.2.2.1 bt152.2.2.2.2.2.2.2.2.2.1 bt152.2.2.2.2.2.2.2.2.2.2.1) else (drachmlaw04_WorthChains.j0 k t102 bt139.2.2.2.2.2.2.2.2.2.2.2 bt152.2.2.2.2.2.2.2.2.2.2.2 true t103 t104 t105 t106 t107 t108 t109 t110 t111 t112 t113 bt127.1 bt127.2.1 bt127.2.2.1 bt127.2.2.2.1 bt127.2.2.2.2.1 bt127.2.2.2.2.2.1 bt127.2.2.2.2.2.2.1 bt127.2.2.2.2.2.2.2.1 bt127.2.2.2.2.2.2.2.2.1 bt127.2.2.2.2.2.2.2.2.2.1 bt127.2.2.2.2.2.2.2.2.2.2 bt139.1 bt139.2.1 bt139.2.2.1 bt139.2.2.2.1 bt139.2.2.2.2.1 bt139.2.2.2.2.2.1 bt139.2.2.2.2.2.2.1 bt139.2.2.2.2.2.2.2.1 bt139.2.2.2.2.2.2.2.2.1 bt139.2.2.2.2.2.2.2.2.2.1 bt139.2.2.2.2.2.2.2.2.2.2.1 bt152.1 bt152.2.1 bt152.2.2.1 bt152.2.2.2.1 bt152.2.2.2.2.1 bt152.2.2.2.2.2.1 bt152.2.2.2.2.2.2.1 bt152.2.2.2.2.2.2.2.1 bt152.2.2.2.2.2.2.2.2.1 bt152.2.2.2.2.2.2.2.2.2.1 bt152.2.2.2.2.2.2.2.2.2.2.1)))))) = some r := H
 have A3 := Aside0.mk A30
 clear A30
 replace H := Option.bind_eq_some_iff.mp H
 obtain ⟨⟨t115, t116, t117, t118, t119, t120, t121, t122, t123, t124, t125⟩, A40, H⟩ := H
 replace H : ((drachmref04_Spec_Worth.f k a0_22 a0_23 a0_24 a0_25 a0_26 a0_27 a0_28 a0_29 a0_30 a0_31 0).bind fun bt127 => ((worth_Mul.f k t103 t104 t105 t106 t107 t108 t109 t110 t111 t112 t113 t115 t116 t117 t118 t119 t120 t121 t122 t123 t124 t125).bind fun bt139 => ((worth_Mul.f k t115 t116 t117 t118 t119 t120 t121 t122 t123 t124 t125 bt127.1 bt127.2.1 bt127.2.2.1 bt127.2.2.2.1 bt127.2.2.2.2.1 bt127.2.2.2.2.2.1 bt127.2.2.2.2.2.2.1 bt127.2.2.2.2.2.2.2.1 bt127.2.2.2.2.2.2.2.2.1 bt127.2.2.2.2.2.2.2.2.2.1 bt127.2.2.2.2.2.2.2.2.2.2).bind fun bt152 => (if bt139.2.2.2.2.2.2.2.2.2.2.2 = 0 then (drachmlaw04_WorthChains.j0 k t102 bt139.2.2.2.2.2.2.2.2.2.2.2 bt152.2.2.2.2.2.2.2.2.2.2.2 (bt152.2.2.2.2.2.2.2.2.2.2.2 != 0) t103 t104 t105 t106 t107 t108 t109 t110 t111 t112 t113 bt127.1 bt127.2.1 bt127.2.2.1 bt127.2.2.2.1 bt127.2.2.2.2.1 bt127.2.2.2.2.2.1 bt127.2.2.2.2.2.2.1 bt127.2.2.2.2.2.2.2.1 bt127.2.2.2.2.2.2.2.2.1 bt127.2.2.2.2.2.2.2.2.2.1 bt127.2.2.2.2.2.2.2.2.2.2 bt139.1 bt139.2.1 bt139.2.2.1 bt139.2.2.2.1 bt139.2.2.2.2.1 bt139.2.2.2.2.2.1 bt139.2.2.2.2.2.2.1 bt139.2.2.2.2.2.2.2.1 bt139.2.2.2.2.2.2.2.2.1 bt139.2.2.2.2.2.2.2.2.2.1 bt139.2.2.2.2.2.2.2.2.2.2.1 bt152.1 bt152.2.1 bt152.2.2.1 bt152.2.2.2.1 bt152.2.2.2.2.1 bt152.2.2.2.2.2.1 bt152.2.2.2.2.2.2.1 bt152.2.2.2.2.2.2.2.1 bt152.2.2.2.2.2.2.2.2.1 bt152.2.2.2.2.2.2.2.2.2.1 bt152.2.2.2.2.2.2.2.2.2.2.1) else (drachmlaw04_WorthChains.j0 k t102 bt139.2.2.2.2.2.2.2.2.2.2.2 bt152.2.2.2.2.2.2.2.2.2.2.2 true t103 t104 t105 t106 t107 t108 t109 t110 t111 t112 t113 bt127.1 bt127.2.1 bt127.2.2.1 bt127.2.2.2.1 bt127.2.2.2.2.1 bt127.2.2.2.2.2.1 bt127.2.2.2.2.2.2.1 bt127.2.2.2.2.2.2.2.1 bt127.2.2.2.2.2.2.2.2.1 bt127.2.2.2.2.2.2.2.2.2.1 bt127.2.2.2.2.2.2.2.2.2.2 bt139.1 bt139.2.1 bt139.2.2.1 bt139.2.2.2.1 bt139.2.2.2.2.1 bt139.2.2.2.2.2.1 bt139.2.2.2.2.2.2.1 bt139.2.2.2.2.2.2.2.1 bt139.2.2.2.2.2.2.2.2.1 bt139.2.2.2.2.2.2.2.2.2.1 bt139.2.2.2.2.2.2.2.2.2.2.1 bt152.1 bt152.2.1 bt152.2.2.1 bt152.2.2.2.1 bt152.2.2.2.2.1 bt152.2.2.2.2.2.1 bt152.2.2.2.2.2.2.1 bt152.2.2.2.2.2.2.2.1 bt152.2.2.2.2.2.2.2.2.1 bt152.2.2.2.2.2.2.2.2.2.1 bt152.2.2.2.2.2.2.2.2.2.2.1))))) = some r := H
 have A4 := Aside0.mk A40
 clear A40
 replace H := Option.bind_eq_some_iff.mp H
 obtain ⟨⟨t127, t128, t129, t130, t131, t132, t133, t134, t135, t136, t137⟩, A50, H⟩ := H
 replace H : ((worth_Mul.f k t103 t104 t105 t106 t107 t108 t109 t110 t111 t112 t113 t115 t116 t117 t118 t119 t120 t121 t122 t123 t124 t125).bind fun bt139 => ((worth_Mul.f k t115 t116 t117 t118 t119 t120 t121 t122 t123 t124 t125 t127 t128 t129 t130 t131 t132 t133 t134 t135 t136 t137).bind fun bt152 => (if bt139.2.2.2.2.2.2.2.2.2.2.2 = 0 then (drachmlaw04_WorthChains.j0 k t102 bt139.2.2.2.2.2.2.2.2.2.2.2 bt152.2.2.2.2.2.2.2.2.2.2.2 (bt152.2.2.2.2.2.2.2.2.2.2.2 != 0) t103 t104 t105 t106 t107 t108 t109 t110 t111 t112 t113 t127 t128 t129 t130 t131 t132 t133 t134 t135 t136 t137 bt139.1 bt139.2.1 bt139.2.2.1 bt139.2.2.2.1 bt139.2.2.2.2.1 bt139.2.2.2.2.2.1 bt139.2.2.2.2.2.2.1 bt139.2.2.2.2.2.2.2.1 bt139.2.2.2.2.2.2.2.2.1 bt139.2.2.2.2.2.2.2.2.2.1 bt139.2.2.2.2.2.2.2.2.2.2.1 bt152.1 bt152.2.1 bt152.2.2.1 bt152.2.2.2.1 bt152.2.2.2.2.1 bt152.2.2.2.2.2.1 bt152.2.2.2.2.2.2.1 bt152.2.2.2.2.2.2.2.1 bt152.2.2.2.2.2.2.2.2.1 bt152.2.2.2.2.2.2.2.2.2.1 bt152.2.2.2.2.2.2.2.2.2.2.1) else (drachmlaw04_WorthChains.j0 k t102 bt139.2.2.2.2.2.2.2.2.2.2.2 bt152.2.2.2.2.2.2.2.2.2.2.2 true t103 t104 t105 t106 t107 t108 t109 t110 t111 t112 t113 t127 t128 t129 t130 t131 t132 t133 t134 t135 t136 t137 bt139.1 bt139.2.1 bt139.2.2.1 bt139.2.2.2.1 bt139.2.2.2.2.1 bt139.2.2.2.2.2.1 bt139.2.2.2.2.2.2.1 bt139.2.2.2.2.2.2.2.1 bt139.2.2.2.2.2.2.2.2.1 bt139.2.2.2.2.2.2.2.2.2.1 bt139.2.2.2.2.2.2.2.2.2.2.1 bt152.1 bt152.2.1 bt152.2.2.1 bt152.2.2.2.1 bt152.2.2.2.2.1 bt152.2.2.2.2.2.1 bt152.2.2.2.2.2.2.1 bt152.2.2.2.2.2.2.2.1 bt152.2.2.2.2.2.2.2.2.1 bt152.2.2.2.2.2.2.2.2.2.1 bt152.2.2.2.2.2.2.2.2.2.2.1)))) = some r := H
 have A5 := Aside0.mk A50
 clear A50
 replace H := Option.bind_eq_some_iff.mp H
 obtain ⟨⟨t139, t140, t141, t142, t143, t144, t145, t146, t147, t148, t149, t150⟩, A60, H⟩ := H
 replace H : ((worth_Mul.f k t115 t116 t117 t118 t119 t120 t121 t122 t123 t124 t125 t127 t128 t129 t130 t131 t132 t133 t134 t135 t136 t137).bind fun bt152 => (if t150 = 0 then (drachmlaw04_WorthChains.j0 k t102 t150 bt152.2.2.2.2.2.2.2.2.2.2.2 (bt152.2.2.2.2.2.2.2.2.2.2.2 != 0) t103 t104 t105 t106 t107 t108 t109 t110 t111 t112 t113 t127 t128 t129 t130 t131 t132 t133 t134 t135 t136 t137 t139 t140 t141 t142 t143 t144 t145 t146 t147 t148 t149 bt152.1 bt152.2.1 bt152.2.2.1 bt152.2.2.2.1 bt152.2.2.2.2.1 bt152.2.2.2.2.2.1 bt152.2.2.2.2.2.2.1 bt152.2.2.2.2.2.2.2.1 bt152.2.2.2.2.2.2.2.2.1 bt152.2.2.2.2.2.2.2.2.2.1 bt152.2.2.2.2.2.2.2.2.2.2.1) else (drachmlaw04_WorthChains.j0 k t102 t150 bt152.2.2.2.2.2.2.2.2.2.2.2 true t103 t104 t105 t106 t107 t108 t109 t110 t111 t112 t113 t127 t128 t129 t130 t131 t132 t133 t134 t135 t136 t137 t139 t140 t141 t142 t143 t144 t145 t146 t147 t148 t149 bt152.1 bt152.2.1 bt152.2.2.1 bt152.2.2.2.1 bt152.2.2.2.2.1 bt152.2.2.2.2.2.1 bt152.2.2.2.2.2.2.1 bt152.2.2.2.2.2.2.2.1 bt152.2.2.2.2.2.2.2.2.1 bt152.2.2.2.2.2.2.2.2.2.1 bt152.2.2.2.2.2.2.2.2.2.2.1))) = some r := H
 have A6 := Aside0.mk A60
 clear A60
 replace H := Option.bind_eq_some_iff.mp H
 obtain ⟨⟨t152, t153, t154, t155, t156, t157, t158, t159, t160, t161, t162, t163⟩, A70, H⟩ := H
 replace H : (if t150 = 0 then (drachmlaw04_WorthChains.j0 k t102 t150 t163 (t163 != 0) t103 t104 t105 t106 t107 t108 t109 t110 t111 t112 t113 t127 t128 t129 t130 t131 t132 t133 t134 t135 t136 t137 t139 t140 t141 t142 t143 t144 t145 t146 t147 t148 t149 t152 t153 t154 t155 t156 t157 t158 t159 t160 t161 t162) else (drachmlaw04_WorthChains.j0 k t102 t150 t163 true t103 t104 t105 t106 t107 t108 t109 t110 t111 t112 t113 t127 t128 t129 t130 t131 t132 t133 t134 t135 t136 t137 t139 t140 t141 t142 t143 t144 t145 t146 t147 t148 t149 t152 t153 t154 t155 t156 t157 t158 t159 t160 t161 t162)) = some r := H
 have A7 := Aside0.mk A70
 clear A70
 have HC8 := Aside0.mk H
 clear H
 go_enter Tryd.func4, Tryd.ntmps4
 try go_wp2_with (first | ((with_reducible refine gate_dst (N := 1) rfl ?_); refine box_event ?hg (N := 1) ?hd (cs := #[.int .i64 a0_0, .int .i64 a0_1, .int .i64 a0_2, .int .i64 a0_3, .int .i64 a0_4, .int .i64 a0_5, .int .i64 a0_6, .int .i64 a0_7, .int .i64 a0_8, .int .i64 a0_9, .int .i64 a0_10, .int .i64 a0_11, .int .i64 a0_12, .int .i64 a0_13, .int .i64 a0_14, .int .i64 a0_15, .int .i64 a0_16, .int .i64 a0_17, .int .i64 a0_18, .int .i64 a0_19, .int .i64 a0_20, .int .i64 a0_21, .int .i64 a0_22, .int .i64 a0_23, .int .i64 a0_24, .int .i64 a0_25, .int .i64 a0_26, .int .i64 a0_27, .int .i64 a0_28, .int .i64 a0_29, .int .i64 a0_30, .int .i64 a0_31, .int .i64 a0_32]) (t := 36) ?hr ?_; (case hd => rfl); (case hg => rfl); (case hr => first | (go_simp; done) | (go_simp; rfl)); intro gb101 hg w9 hbox hb; have n0_ := sb HB hb; have n1_ := Aside0.mk (hbox); have n2_ := Aside0.mk ((by rw [hg]; exact (below_size (bl HB.out)) : w.heap.size ≤ gb101)); have n3_ := Aside0.mk ((by rw [hg]; exact (below_size (bl HB.out)) : w.heap.size ≤ gb101)); clear HB; have HB := n0_; have BK101 := n1_; have GW101 := n2_; have GE101 := n3_; clear n0_ n1_ n2_ n3_; clear hb hbox hg) | (go_at_call 9; (with_reducible refine (drachmlaw04_awake.calls k  t102 _ (Glob.use hG (by decide) (bl HB.out)) A2.out).mono ?_); rintro e w10 ⟨rfl, hb⟩; replace BK101 := kb BK101 hb; replace HB := sb HB hb; (try clear hb); (try clear hb2); (try clear hk); (try clear hi)))
 refine wp_loop_rounds 41 ?_
 rw [rounds_succ]
 have hcz11_0 : w10.cell? ⟨gb101, 0, none⟩ = some (.int .i64 a0_0) := (blk_cell BK101.out 0).trans rfl
 have hcz11_1 : w10.cell? ⟨gb101, 1, none⟩ = some (.int .i64 a0_1) := (blk_cell BK101.out 1).trans rfl
 have hcz11_2 : w10.cell? ⟨gb101, 2, none⟩ = some (.int .i64 a0_2) := (blk_cell BK101.out 2).trans rfl
 have hcz11_3 : w10.cell? ⟨gb101, 3, none⟩ = some (.int .i64 a0_3) := (blk_cell BK101.out 3).trans rfl
 have hcz11_4 : w10.cell? ⟨gb101, 4, none⟩ = some (.int .i64 a0_4) := (blk_cell BK101.out 4).trans rfl
 have hcz11_5 : w10.cell? ⟨gb101, 5, none⟩ = some (.int .i64 a0_5) := (blk_cell BK101.out 5).trans rfl
 have hcz11_6 : w10.cell? ⟨gb101, 6, none⟩ = some (.int .i64 a0_6) := (blk_cell BK101.out 6).trans rfl
 have hcz11_7 : w10.cell? ⟨gb101, 7, none⟩ = some (.int .i64 a0_7) := (blk_cell BK101.out 7).trans rfl
 have hcz11_8 : w10.cell? ⟨gb101, 8, none⟩ = some (.int .i64 a0_8) := (blk_cell BK101.out 8).trans rfl
 have hcz11_9 : w10.cell? ⟨gb101, 9, none⟩ = some (.int .i64 a0_9) := (blk_cell BK101.out 9).trans rfl
 have hcz11_10 : w10.cell? ⟨gb101, 10, none⟩ = some (.int .i64 a0_10) := (blk_cell BK101.out 10).trans rfl
 have hcz11_11 : w10.cell? ⟨gb101, 11, none⟩ = some (.int .i64 a0_11) := (blk_cell BK101.out 11).trans rfl
 have hcz11_12 : w10.cell? ⟨gb101, 12, none⟩ = some (.int .i64 a0_12) := (blk_cell BK101.out 12).trans rfl
 have hcz11_13 : w10.cell? ⟨gb101, 13, none⟩ = some (.int .i64 a0_13) := (blk_cell BK101.out 13).trans rfl
 have hcz11_14 : w10.cell? ⟨gb101, 14, none⟩ = some (.int .i64 a0_14) := (blk_cell BK101.out 14).trans rfl
 have hcz11_15 : w10.cell? ⟨gb101, 15, none⟩ = some (.int .i64 a0_15) := (blk_cell BK101.out 15).trans rfl
 have hcz11_16 : w10.cell? ⟨gb101, 16, none⟩ = some (.int .i64 a0_16) := (blk_cell BK101.out 16).trans rfl
 have hcz11_17 : w10.cell? ⟨gb101, 17, none⟩ = some (.int .i64 a0_17) := (blk_cell BK101.out 17).trans rfl
 have hcz11_18 : w10.cell? ⟨gb101, 18, none⟩ = some (.int .i64 a0_18) := (blk_cell BK101.out 18).trans rfl
 have hcz11_19 : w10.cell? ⟨gb101, 19, none⟩ = some (.int .i64 a0_19) := (blk_cell BK101.out 19).trans rfl
 have hcz11_20 : w10.cell? ⟨gb101, 20, none⟩ = some (.int .i64 a0_20) := (blk_cell BK101.out 20).trans rfl
 have hcz11_21 : w10.cell? ⟨gb101, 21, none⟩ = some (.int .i64 a0_21) := (blk_cell BK101.out 21).trans rfl
 have hcz11_22 : w10.cell? ⟨gb101, 22, none⟩ = some (.int .i64 a0_22) := (blk_cell BK101.out 22).trans rfl
 have hcz11_23 : w10.cell? ⟨gb101, 23, none⟩ = some (.int .i64 a0_23) := (blk_cell BK101.out 23).trans rfl
 have hcz11_24 : w10.cell? ⟨gb101, 24, none⟩ = some (.int .i64 a0_24) := (blk_cell BK101.out 24).trans rfl
 have hcz11_25 : w10.cell? ⟨gb101, 25, none⟩ = some (.int .i64 a0_25) := (blk_cell BK101.out 25).trans rfl
 have hcz11_26 : w10.cell? ⟨gb101, 26, none⟩ = some (.int .i64 a0_26) := (blk_cell BK101.out 26).trans rfl
 have hcz11_27 : w10.cell? ⟨gb101, 27, none⟩ = some (.int .i64 a0_27) := (blk_cell BK101.out 27).trans rfl
 have hcz11_28 : w10.cell? ⟨gb101, 28, none⟩ = some (.int .i64 a0_28) := (blk_cell BK101.out 28).trans rfl
 have hcz11_29 : w10.cell? ⟨gb101, 29, none⟩ = some (.int .i64 a0_29) := (blk_cell BK101.out 29).trans rfl
 have hcz11_30 : w10.cell? ⟨gb101, 30, none⟩ = some (.int .i64 a0_30) := (blk_cell BK101.out 30).trans rfl
 have hcz11_31 : w10.cell? ⟨gb101, 31, none⟩ = some (.int .i64 a0_31) := (blk_cell BK101.out 31).trans rfl
 have hcz11_32 : w10.cell? ⟨gb101, 32, none⟩ = some (.int .i64 a0_32) := (blk_cell BK101.out 32).trans rfl
 have hfz11_0 := blk_frozen BK101.out 0
 have hfz11_1 := blk_frozen BK101.out 1
 have hfz11_2 := blk_frozen BK101.out 2
 have hfz11_3 := blk_frozen BK101.out 3
 have hfz11_4 := blk_frozen BK101.out 4
 have hfz11_5 := blk_frozen BK101.out 5
 have hfz11_6 := blk_frozen BK101.out 6
 have hfz11_7 := blk_frozen BK101.out 7
 have hfz11_8 := blk_frozen BK101.out 8
 have hfz11_9 := blk_frozen BK101.out 9
 have hfz11_10 := blk_frozen BK101.out 10
 have hfz11_11 := blk_frozen BK101.out 11
 have hfz11_12 := blk_frozen BK101.out 12
 have hfz11_13 := blk_frozen BK101.out 13
 have hfz11_14 := blk_frozen BK101.out 14
 have hfz11_15 := blk_frozen BK101.out 15
 have hfz11_16 := blk_frozen BK101.out 16
 have hfz11_17 := blk_frozen BK101.out 17
 have hfz11_18 := blk_frozen BK101.out 18
 have hfz11_19 := blk_frozen BK101.out 19
 have hfz11_20 := blk_frozen BK101.out 20
 have hfz11_21 := blk_frozen BK101.out 21
 have hfz11_22 := blk_frozen BK101.out 22
 have hfz11_23 := blk_frozen BK101.out 23
 have hfz11_24 := blk_frozen BK101.out 24
 have hfz11_25 := blk_frozen BK101.out 25
 have hfz11_26 := blk_frozen BK101.out 26
 have hfz11_27 := blk_frozen BK101.out 27
 have hfz11_28 := blk_frozen BK101.out 28
 have hfz11_29 := blk_frozen BK101.out 29
 have hfz11_30 := blk_frozen BK101.out 30
 have hfz11_31 := blk_frozen BK101.out 31
 have hfz11_32 := blk_frozen BK101.out 32
 try go_wp2
 rw [rounds_succ]
 have n0_ : Aside0 ((w10.setCell ⟨gb101, 10, none⟩ (.int .i64 0)).heap[gb101]? = some (.cells #[.int .i64 a0_0, .int .i64 a0_1, .int .i64 a0_2, .int .i64 a0_3, .int .i64 a0_4, .int .i64 a0_5, .int .i64 a0_6, .int .i64 a0_7, .int .i64 a0_8, .int .i64 a0_9, .int .i64 0, .int .i64 a0_11, .int .i64 a0_12, .int .i64 a0_13, .int .i64 a0_14, .int .i64 a0_15, .int .i64 a0_16, .int .i64 a0_17, .int .i64 a0_18, .int .i64 a0_19, .int .i64 a0_20, .int .i64 a0_21, .int .i64 a0_22, .int .i64 a0_23, .int .i64 a0_24, .int .i64 a0_25, .int .i64 a0_26, .int .i64 a0_27, .int .i64 a0_28, .int .i64 a0_29, .int .i64 a0_30, .int .i64 a0_31, .int .i64 a0_32] 36 (0, 0))) := ⟨by (with_reducible repeat (first | refine blk_drewN ?_ _ | refine blk_drew ?_ | refine blk_alloc ?_ _)); refine blk_put (cs := #[.int .i64 a0_0, .int .i64 a0_1, .int .i64 a0_2, .int .i64 a0_3, .int .i64 a0_4, .int .i64 a0_5, .int .i64 a0_6, .int .i64 a0_7, .int .i64 a0_8, .int .i64 a0_9, .int .i64 a0_10, .int .i64 a0_11, .int .i64 a0_12, .int .i64 a0_13, .int .i64 a0_14, .int .i64 a0_15, .int .i64 a0_16, .int .i64 a0_17, .int .i64 a0_18, .int .i64 a0_19, .int .i64 a0_20, .int .i64 a0_21, .int .i64 a0_22, .int .i64 a0_23, .int .i64 a0_24, .int .i64 a0_25, .int .i64 a0_26, .int .i64 a0_27, .int .i64 a0_28, .int .i64 a0_29, .int .i64 a0_30, .int .i64 a0_31, .int .i64 a0_32]) ?_ 10 _ rfl; (with_reducible repeat (first | refine blk_drewN ?_ _ | refine blk_drew ?_ | refine blk_alloc ?_ _)); exact BK101.out⟩
 have n1_ : Aside0 (Below w.heap.size w (w10.setCell ⟨gb101, 10, none⟩ (.int .i64 0))) := ⟨bl HB.out⟩
 (try clear BK101)
 (try clear HB)
 generalize (w10.setCell ⟨gb101, 10, none⟩ (.int .i64 0)) = w12 at n0_ n1_ ⊢
 have BK101 := n0_
 have HB := n1_
 clear n0_ n1_
 (try (rw [drewN_self w12]; generalize hq_ : World.drewN w12 _ = w12; replace BK101 := Aside0.mk (kq hq_ BK101.out); replace HB := Aside0.mk (bq hq_ HB.out); clear hq_))
 have hcz13_0 : w12.cell? ⟨gb101, 0, none⟩ = some (.int .i64 a0_0) := (blk_cell BK101.out 0).trans rfl
 have hcz13_1 : w12.cell? ⟨gb101, 1, none⟩ = some (.int .i64 a0_1) := (blk_cell BK101.out 1).trans rfl
 have hcz13_2 : w12.cell? ⟨gb101, 2, none⟩ = some (.int .i64 a0_2) := (blk_cell BK101.out 2).trans rfl
 have hcz13_3 : w12.cell? ⟨gb101, 3, none⟩ = some (.int .i64 a0_3) := (blk_cell BK101.out 3).trans rfl
 have hcz13_4 : w12.cell? ⟨gb101, 4, none⟩ = some (.int .i64 a0_4) := (blk_cell BK101.out 4).trans rfl
 have hcz13_5 : w12.cell? ⟨gb101, 5, none⟩ = some (.int .i64 a0_5) := (blk_cell BK101.out 5).trans rfl
 have hcz13_6 : w12.cell? ⟨gb101, 6, none⟩ = some (.int .i64 a0_6) := (blk_cell BK101.out 6).trans rfl
 have hcz13_7 : w12.cell? ⟨gb101, 7, none⟩ = some (.int .i64 a0_7) := (blk_cell BK101.out 7).trans rfl
 have hcz13_8 : w12.cell? ⟨gb101, 8, none⟩ = some (.int .i64 a0_8) := (blk_cell BK101.out 8).trans rfl
 have hcz13_9 : w12.cell? ⟨gb101, 9, none⟩ = some (.int .i64 a0_9) := (blk_cell BK101.out 9).trans rfl
 have hcz13_10 : w12.cell? ⟨gb101, 10, none⟩ = some (.int .i64 0) := (blk_cell BK101.out 10).trans rfl
 have hcz13_11 : w12.cell? ⟨gb101, 11, none⟩ = some (.int .i64 a0_11) := (blk_cell BK101.out 11).trans rfl
 have hcz13_12 : w12.cell? ⟨gb101, 12, none⟩ = some (.int .i64 a0_12) := (blk_cell BK101.out 12).trans rfl
 have hcz13_13 : w12.cell? ⟨gb101, 13, none⟩ = some (.int .i64 a0_13) := (blk_cell BK101.out 13).trans rfl
 have hcz13_14 : w12.cell? ⟨gb101, 14, none⟩ = some (.int .i64 a0_14) := (blk_cell BK101.out 14).trans rfl
 have hcz13_15 : w12.cell? ⟨gb101, 15, none⟩ = some (.int .i64 a0_15) := (blk_cell BK101.out 15).trans rfl
 have hcz13_16 : w12.cell? ⟨gb101, 16, none⟩ = some (.int .i64 a0_16) := (blk_cell BK101.out 16).trans rfl
 have hcz13_17 : w12.cell? ⟨gb101, 17, none⟩ = some (.int .i64 a0_17) := (blk_cell BK101.out 17).trans rfl
 have hcz13_18 : w12.cell? ⟨gb101, 18, none⟩ = some (.int .i64 a0_18) := (blk_cell BK101.out 18).trans rfl
 have hcz13_19 : w12.cell? ⟨gb101, 19, none⟩ = some (.int .i64 a0_19) := (blk_cell BK101.out 19).trans rfl
 have hcz13_20 : w12.cell? ⟨gb101, 20, none⟩ = some (.int .i64 a0_20) := (blk_cell BK101.out 20).trans rfl
 have hcz13_21 : w12.cell? ⟨gb101, 21, none⟩ = some (.int .i64 a0_21) := (blk_cell BK101.out 21).trans rfl
 have hcz13_22 : w12.cell? ⟨gb101, 22, none⟩ = some (.int .i64 a0_22) := (blk_cell BK101.out 22).trans rfl
 have hcz13_23 : w12.cell? ⟨gb101, 23, none⟩ = some (.int .i64 a0_23) := (blk_cell BK101.out 23).trans rfl
 have hcz13_24 : w12.cell? ⟨gb101, 24, none⟩ = some (.int .i64 a0_24) := (blk_cell BK101.out 24).trans rfl
 have hcz13_25 : w12.cell? ⟨gb101, 25, none⟩ = some (.int .i64 a0_25) := (blk_cell BK101.out 25).trans rfl
 have hcz13_26 : w12.cell? ⟨gb101, 26, none⟩ = some (.int .i64 a0_26) := (blk_cell BK101.out 26).trans rfl
 have hcz13_27 : w12.cell? ⟨gb101, 27, none⟩ = some (.int .i64 a0_27) := (blk_cell BK101.out 27).trans rfl
 have hcz13_28 : w12.cell? ⟨gb101, 28, none⟩ = some (.int .i64 a0_28) := (blk_cell BK101.out 28).trans rfl
 have hcz13_29 : w12.cell? ⟨gb101, 29, none⟩ = some (.int .i64 a0_29) := (blk_cell BK101.out 29).trans rfl
 have hcz13_30 : w12.cell? ⟨gb101, 30, none⟩ = some (.int .i64 a0_30) := (blk_cell BK101.out 30).trans rfl
 have hcz13_31 : w12.cell? ⟨gb101, 31, none⟩ = some (.int .i64 a0_31) := (blk_cell BK101.out 31).trans rfl
 have hcz13_32 : w12.cell? ⟨gb101, 32, none⟩ = some (.int .i64 a0_32) := (blk_cell BK101.out 32).trans rfl
 have hfz13_0 := blk_frozen BK101.out 0
 have hfz13_1 := blk_frozen BK101.out 1
 have hfz13_2 := blk_frozen BK101.out 2
 have hfz13_3 := blk_frozen BK101.out 3
 have hfz13_4 := blk_frozen BK101.out 4
 have hfz13_5 := blk_frozen BK101.out 5
 have hfz13_6 := blk_frozen BK101.out 6
 have hfz13_7 := blk_frozen BK101.out 7
 have hfz13_8 := blk_frozen BK101.out 8
 have hfz13_9 := blk_frozen BK101.out 9
 have hfz13_10 := blk_frozen BK101.out 10
 have hfz13_11 := blk_frozen BK101.out 11
 have hfz13_12 := blk_frozen BK101.out 12
 have hfz13_13 := blk_frozen BK101.out 13
 have hfz13_14 := blk_frozen BK101.out 14
 have hfz13_15 := blk_frozen BK101.out 15
 have hfz13_16 := blk_frozen BK101.out 16
 have hfz13_17 := blk_frozen BK101.out 17
 have hfz13_18 := blk_frozen BK101.out 18
 have hfz13_19 := blk_frozen BK101.out 19
 have hfz13_20 := blk_frozen BK101.out 20
 have hfz13_21 := blk_frozen BK101.out 21
 have hfz13_22 := blk_frozen BK101.out 22
 have hfz13_23 := blk_frozen BK101.out 23
 have hfz13_24 := blk_frozen BK101.out 24
 have hfz13_25 := blk_frozen BK101.out 25
 have hfz13_26 := blk_frozen BK101.out 26
 have hfz13_27 := blk_frozen BK101.out 27
 have hfz13_28 := blk_frozen BK101.out 28
 have hfz13_29 := blk_frozen BK101.out 29
 have hfz13_30 := blk_frozen BK101.out 30
 have hfz13_31 := blk_frozen BK101.out 31
 have hfz13_32 := blk_frozen BK101.out 32
 try go_wp2
 rw [rounds_succ]
 have n0_ : Aside0 ((w12.setCell ⟨gb101, 21, none⟩ (.int .i64 0)).heap[gb101]? = some (.cells #[.int .i64 a0_0, .int .i64 a0_1, .int .i64 a0_2, .int .i64 a0_3, .int .i64 a0_4, .int .i64 a0_5, .int .i64 a0_6, .int .i64 a0_7, .int .i64 a0_8, .int .i64 a0_9, .int .i64 0, .int .i64 a0_11, .int .i64 a0_12, .int .i64 a0_13, .int .i64 a0_14, .int .i64 a0_15, .int .i64 a0_16, .int .i64 a0_17, .int .i64 a0_18, .int .i64 a0_19, .int .i64 a0_20, .int .i64 0, .int .i64 a0_22, .int .i64 a0_23, .int .i64 a0_24, .int .i64 a0_25, .int .i64 a0_26, .int .i64 a0_27, .int .i64 a0_28, .int .i64 a0_29, .int .i64 a0_30, .int .i64 a0_31, .int .i64 a0_32] 36 (0, 0))) := ⟨by (with_reducible repeat (first | refine blk_drewN ?_ _ | refine blk_drew ?_ | refine blk_alloc ?_ _)); refine blk_put (cs := #[.int .i64 a0_0, .int .i64 a0_1, .int .i64 a0_2, .int .i64 a0_3, .int .i64 a0_4, .int .i64 a0_5, .int .i64 a0_6, .int .i64 a0_7, .int .i64 a0_8, .int .i64 a0_9, .int .i64 0, .int .i64 a0_11, .int .i64 a0_12, .int .i64 a0_13, .int .i64 a0_14, .int .i64 a0_15, .int .i64 a0_16, .int .i64 a0_17, .int .i64 a0_18, .int .i64 a0_19, .int .i64 a0_20, .int .i64 a0_21, .int .i64 a0_22, .int .i64 a0_23, .int .i64 a0_24, .int .i64 a0_25, .int .i64 a0_26, .int .i64 a0_27, .int .i64 a0_28, .int .i64 a0_29, .int .i64 a0_30, .int .i64 a0_31, .int .i64 a0_32]) ?_ 21 _ rfl; (with_reducible repeat (first | refine blk_drewN ?_ _ | refine blk_drew ?_ | refine blk_alloc ?_ _)); exact BK101.out⟩
 have n1_ : Aside0 (Below w.heap.size w (w12.setCell ⟨gb101, 21, none⟩ (.int .i64 0))) := ⟨bl HB.out⟩
 (try clear BK101)
 (try clear HB)
 generalize (w12.setCell ⟨gb101, 21, none⟩ (.int .i64 0)) = w14 at n0_ n1_ ⊢
 have BK101 := n0_
 have HB := n1_
 clear n0_ n1_
 (try (rw [drewN_self w14]; generalize hq_ : World.drewN w14 _ = w14; replace BK101 := Aside0.mk (kq hq_ BK101.out); replace HB := Aside0.mk (bq hq_ HB.out); clear hq_))
 have hcz15_0 : w14.cell? ⟨gb101, 0, none⟩ = some (.int .i64 a0_0) := (blk_cell BK101.out 0).trans rfl
 have hcz15_1 : w14.cell? ⟨gb101, 1, none⟩ = some (.int .i64 a0_1) := (blk_cell BK101.out 1).trans rfl
 have hcz15_2 : w14.cell? ⟨gb101, 2, none⟩ = some (.int .i64 a0_2) := (blk_cell BK101.out 2).trans rfl
 have hcz15_3 : w14.cell? ⟨gb101, 3, none⟩ = some (.int .i64 a0_3) := (blk_cell BK101.out 3).trans rfl
 have hcz15_4 : w14.cell? ⟨gb101, 4, none⟩ = some (.int .i64 a0_4) := (blk_cell BK101.out 4).trans rfl
 have hcz15_5 : w14.cell? ⟨gb101, 5, none⟩ = some (.int .i64 a0_5) := (blk_cell BK101.out 5).trans rfl
 have hcz15_6 : w14.cell? ⟨gb101, 6, none⟩ = some (.int .i64 a0_6) := (blk_cell BK101.out 6).trans rfl
 have hcz15_7 : w14.cell? ⟨gb101, 7, none⟩ = some (.int .i64 a0_7) := (blk_cell BK101.out 7).trans rfl
 have hcz15_8 : w14.cell? ⟨gb101, 8, none⟩ = some (.int .i64 a0_8) := (blk_cell BK101.out 8).trans rfl
 have hcz15_9 : w14.cell? ⟨gb101, 9, none⟩ = some (.int .i64 a0_9) := (blk_cell BK101.out 9).trans rfl
 have hcz15_10 : w14.cell? ⟨gb101, 10, none⟩ = some (.int .i64 0) := (blk_cell BK101.out 10).trans rfl
 have hcz15_11 : w14.cell? ⟨gb101, 11, none⟩ = some (.int .i64 a0_11) := (blk_cell BK101.out 11).trans rfl
 have hcz15_12 : w14.cell? ⟨gb101, 12, none⟩ = some (.int .i64 a0_12) := (blk_cell BK101.out 12).trans rfl
 have hcz15_13 : w14.cell? ⟨gb101, 13, none⟩ = some (.int .i64 a0_13) := (blk_cell BK101.out 13).trans rfl
 have hcz15_14 : w14.cell? ⟨gb101, 14, none⟩ = some (.int .i64 a0_14) := (blk_cell BK101.out 14).trans rfl
 have hcz15_15 : w14.cell? ⟨gb101, 15, none⟩ = some (.int .i64 a0_15) := (blk_cell BK101.out 15).trans rfl
 have hcz15_16 : w14.cell? ⟨gb101, 16, none⟩ = some (.int .i64 a0_16) := (blk_cell BK101.out 16).trans rfl
 have hcz15_17 : w14.cell? ⟨gb101, 17, none⟩ = some (.int .i64 a0_17) := (blk_cell BK101.out 17).trans rfl
 have hcz15_18 : w14.cell? ⟨gb101, 18, none⟩ = some (.int .i64 a0_18) := (blk_cell BK101.out 18).trans rfl
 have hcz15_19 : w14.cell? ⟨gb101, 19, none⟩ = some (.int .i64 a0_19) := (blk_cell BK101.out 19).trans rfl
 have hcz15_20 : w14.cell? ⟨gb101, 20, none⟩ = some (.int .i64 a0_20) := (blk_cell BK101.out 20).trans rfl
 have hcz15_21 : w14.cell? ⟨gb101, 21, none⟩ = some (.int .i64 0) := (blk_cell BK101.out 21).trans rfl
 have hcz15_22 : w14.cell? ⟨gb101, 22, none⟩ = some (.int .i64 a0_22) := (blk_cell BK101.out 22).trans rfl
 have hcz15_23 : w14.cell? ⟨gb101, 23, none⟩ = some (.int .i64 a0_23) := (blk_cell BK101.out 23).trans rfl
 have hcz15_24 : w14.cell? ⟨gb101, 24, none⟩ = some (.int .i64 a0_24) := (blk_cell BK101.out 24).trans rfl
 have hcz15_25 : w14.cell? ⟨gb101, 25, none⟩ = some (.int .i64 a0_25) := (blk_cell BK101.out 25).trans rfl
 have hcz15_26 : w14.cell? ⟨gb101, 26, none⟩ = some (.int .i64 a0_26) := (blk_cell BK101.out 26).trans rfl
 have hcz15_27 : w14.cell? ⟨gb101, 27, none⟩ = some (.int .i64 a0_27) := (blk_cell BK101.out 27).trans rfl
 have hcz15_28 : w14.cell? ⟨gb101, 28, none⟩ = some (.int .i64 a0_28) := (blk_cell BK101.out 28).trans rfl
 have hcz15_29 : w14.cell? ⟨gb101, 29, none⟩ = some (.int .i64 a0_29) := (blk_cell BK101.out 29).trans rfl
 have hcz15_30 : w14.cell? ⟨gb101, 30, none⟩ = some (.int .i64 a0_30) := (blk_cell BK101.out 30).trans rfl
 have hcz15_31 : w14.cell? ⟨gb101, 31, none⟩ = some (.int .i64 a0_31) := (blk_cell BK101.out 31).trans rfl
 have hcz15_32 : w14.cell? ⟨gb101, 32, none⟩ = some (.int .i64 a0_32) := (blk_cell BK101.out 32).trans rfl
 have hfz15_0 := blk_frozen BK101.out 0
 have hfz15_1 := blk_frozen BK101.out 1
 have hfz15_2 := blk_frozen BK101.out 2
 have hfz15_3 := blk_frozen BK101.out 3
 have hfz15_4 := blk_frozen BK101.out 4
 have hfz15_5 := blk_frozen BK101.out 5
 have hfz15_6 := blk_frozen BK101.out 6
 have hfz15_7 := blk_frozen BK101.out 7
 have hfz15_8 := blk_frozen BK101.out 8
 have hfz15_9 := blk_frozen BK101.out 9
 have hfz15_10 := blk_frozen BK101.out 10
 have hfz15_11 := blk_frozen BK101.out 11
 have hfz15_12 := blk_frozen BK101.out 12
 have hfz15_13 := blk_frozen BK101.out 13
 have hfz15_14 := blk_frozen BK101.out 14
 have hfz15_15 := blk_frozen BK101.out 15
 have hfz15_16 := blk_frozen BK101.out 16
 have hfz15_17 := blk_frozen BK101.out 17
 have hfz15_18 := blk_frozen BK101.out 18
 have hfz15_19 := blk_frozen BK101.out 19
 have hfz15_20 := blk_frozen BK101.out 20
 have hfz15_21 := blk_frozen BK101.out 21
 have hfz15_22 := blk_frozen BK101.out 22
 have hfz15_23 := blk_frozen BK101.out 23
 have hfz15_24 := blk_frozen BK101.out 24
 have hfz15_25 := blk_frozen BK101.out 25
 have hfz15_26 := blk_frozen BK101.out 26
 have hfz15_27 := blk_frozen BK101.out 27
 have hfz15_28 := blk_frozen BK101.out 28
 have hfz15_29 := blk_frozen BK101.out 29
 have hfz15_30 := blk_frozen BK101.out 30
 have hfz15_31 := blk_frozen BK101.out 31
 have hfz15_32 := blk_frozen BK101.out 32
 try go_wp2
 rw [rounds_succ]
 have n0_ : Aside0 ((w14.setCell ⟨gb101, 32, none⟩ (.int .i64 0)).heap[gb101]? = some (.cells #[.int .i64 a0_0, .int .i64 a0_1, .int .i64 a0_2, .int .i64 a0_3, .int .i64 a0_4, .int .i64 a0_5, .int .i64 a0_6, .int .i64 a0_7, .int .i64 a0_8, .int .i64 a0_9, .int .i64 0, .int .i64 a0_11, .int .i64 a0_12, .int .i64 a0_13, .int .i64 a0_14, .int .i64 a0_15, .int .i64 a0_16, .int .i64 a0_17, .int .i64 a0_18, .int .i64 a0_19, .int .i64 a0_20, .int .i64 0, .int .i64 a0_22, .int .i64 a0_23, .int .i64 a0_24, .int .i64 a0_25, .int .i64 a0_26, .int .i64 a0_27, .int .i64 a0_28, .int .i64 a0_29, .int .i64 a0_30, .int .i64 a0_31, .int .i64 0] 36 (0, 0))) := ⟨by (with_reducible repeat (first | refine blk_drewN ?_ _ | refine blk_drew ?_ | refine blk_alloc ?_ _)); refine blk_put (cs := #[.int .i64 a0_0, .int .i64 a0_1, .int .i64 a0_2, .int .i64 a0_3, .int .i64 a0_4, .int .i64 a0_5, .int .i64 a0_6, .int .i64 a0_7, .int .i64 a0_8, .int .i64 a0_9, .int .i64 0, .int .i64 a0_11, .int .i64 a0_12, .int .i64 a0_13, .int .i64 a0_14, .int .i64 a0_15, .int .i64 a0_16, .int .i64 a0_17, .int .i64 a0_18, .int .i64 a0_19, .int .i64 a0_20, .int .i64 0, .int .i64 a0_22, .int .i64 a0_23, .int .i64 a0_24, .int .i64 a0_25, .int .i64 a0_26, .int .i64 a0_27, .int .i64 a0_28, .int .i64 a0_29, .int .i64 a0_30, .int .i64 a0_31, .int .i64 a0_32]) ?_ 32 _ rfl; (with_reducible repeat (first | refine blk_drewN ?_ _ | refine blk_drew ?_ | refine blk_alloc ?_ _)); exact BK101.out⟩
 have n1_ : Aside0 (Below w.heap.size w (w14.setCell ⟨gb101, 32, none⟩ (.int .i64 0))) := ⟨bl HB.out⟩
 (try clear BK101)
 (try clear HB)
 generalize (w14.setCell ⟨gb101, 32, none⟩ (.int .i64 0)) = w16 at n0_ n1_ ⊢
 have BK101 := n0_
 have HB := n1_
 clear n0_ n1_
 (try (rw [drewN_self w16]; generalize hq_ : World.drewN w16 _ = w16; replace BK101 := Aside0.mk (kq hq_ BK101.out); replace HB := Aside0.mk (bq hq_ HB.out); clear hq_))
 have hcz17_0 : w16.cell? ⟨gb101, 0, none⟩ = some (.int .i64 a0_0) := (blk_cell BK101.out 0).trans rfl
 have hcz17_1 : w16.cell? ⟨gb101, 1, none⟩ = some (.int .i64 a0_1) := (blk_cell BK101.out 1).trans rfl
 have hcz17_2 : w16.cell? ⟨gb101, 2, none⟩ = some (.int .i64 a0_2) := (blk_cell BK101.out 2).trans rfl
 have hcz17_3 : w16.cell? ⟨gb101, 3, none⟩ = some (.int .i64 a0_3) := (blk_cell BK101.out 3).trans rfl
 have hcz17_4 : w16.cell? ⟨gb101, 4, none⟩ = some (.int .i64 a0_4) := (blk_cell BK101.out 4).trans rfl
 have hcz17_5 : w16.cell? ⟨gb101, 5, none⟩ = some (.int .i64 a0_5) := (blk_cell BK101.out 5).trans rfl
 have hcz17_6 : w16.cell? ⟨gb101, 6, none⟩ = some (.int .i64 a0_6) := (blk_cell BK101.out 6).trans rfl
 have hcz17_7 : w16.cell? ⟨gb101, 7, none⟩ = some (.int .i64 a0_7) := (blk_cell BK101.out 7).trans rfl
 have hcz17_8 : w16.cell? ⟨gb101, 8, none⟩ = some (.int .i64 a0_8) := (blk_cell BK101.out 8).trans rfl
 have hcz17_9 : w16.cell? ⟨gb101, 9, none⟩ = some (.int .i64 a0_9) := (blk_cell BK101.out 9).trans rfl
 have hcz17_10 : w16.cell? ⟨gb101, 10, none⟩ = some (.int .i64 0) := (blk_cell BK101.out 10).trans rfl
 have hcz17_11 : w16.cell? ⟨gb101, 11, none⟩ = some (.int .i64 a0_11) := (blk_cell BK101.out 11).trans rfl
 have hcz17_12 : w16.cell? ⟨gb101, 12, none⟩ = some (.int .i64 a0_12) := (blk_cell BK101.out 12).trans rfl
 have hcz17_13 : w16.cell? ⟨gb101, 13, none⟩ = some (.int .i64 a0_13) := (blk_cell BK101.out 13).trans rfl
 have hcz17_14 : w16.cell? ⟨gb101, 14, none⟩ = some (.int .i64 a0_14) := (blk_cell BK101.out 14).trans rfl
 have hcz17_15 : w16.cell? ⟨gb101, 15, none⟩ = some (.int .i64 a0_15) := (blk_cell BK101.out 15).trans rfl
 have hcz17_16 : w16.cell? ⟨gb101, 16, none⟩ = some (.int .i64 a0_16) := (blk_cell BK101.out 16).trans rfl
 have hcz17_17 : w16.cell? ⟨gb101, 17, none⟩ = some (.int .i64 a0_17) := (blk_cell BK101.out 17).trans rfl
 have hcz17_18 : w16.cell? ⟨gb101, 18, none⟩ = some (.int .i64 a0_18) := (blk_cell BK101.out 18).trans rfl
 have hcz17_19 : w16.cell? ⟨gb101, 19, none⟩ = some (.int .i64 a0_19) := (blk_cell BK101.out 19).trans rfl
 have hcz17_20 : w16.cell? ⟨gb101, 20, none⟩ = some (.int .i64 a0_20) := (blk_cell BK101.out 20).trans rfl
 have hcz17_21 : w16.cell? ⟨gb101, 21, none⟩ = some (.int .i64 0) := (blk_cell BK101.out 21).trans rfl
 have hcz17_22 : w16.cell? ⟨gb101, 22, none⟩ = some (.int .i64 a0_22) := (blk_cell BK101.out 22).trans rfl
 have hcz17_23 : w16.cell? ⟨gb101, 23, none⟩ = some (.int .i64 a0_23) := (blk_cell BK101.out 23).trans rfl
 have hcz17_24 : w16.cell? ⟨gb101, 24, none⟩ = some (.int .i64 a0_24) := (blk_cell BK101.out 24).trans rfl
 have hcz17_25 : w16.cell? ⟨gb101, 25, none⟩ = some (.int .i64 a0_25) := (blk_cell BK101.out 25).trans rfl
 have hcz17_26 : w16.cell? ⟨gb101, 26, none⟩ = some (.int .i64 a0_26) := (blk_cell BK101.out 26).trans rfl
 have hcz17_27 : w16.cell? ⟨gb101, 27, none⟩ = some (.int .i64 a0_27) := (blk_cell BK101.out 27).trans rfl
 have hcz17_28 : w16.cell? ⟨gb101, 28, none⟩ = some (.int .i64 a0_28) := (blk_cell BK101.out 28).trans rfl
 have hcz17_29 : w16.cell? ⟨gb101, 29, none⟩ = some (.int .i64 a0_29) := (blk_cell BK101.out 29).trans rfl
 have hcz17_30 : w16.cell? ⟨gb101, 30, none⟩ = some (.int .i64 a0_30) := (blk_cell BK101.out 30).trans rfl
 have hcz17_31 : w16.cell? ⟨gb101, 31, none⟩ = some (.int .i64 a0_31) := (blk_cell BK101.out 31).trans rfl
 have hcz17_32 : w16.cell? ⟨gb101, 32, none⟩ = some (.int .i64 0) := (blk_cell BK101.out 32).trans rfl
 have hfz17_0 := blk_frozen BK101.out 0
 have hfz17_1 := blk_frozen BK101.out 1
 have hfz17_2 := blk_frozen BK101.out 2
 have hfz17_3 := blk_frozen BK101.out 3
 have hfz17_4 := blk_frozen BK101.out 4
 have hfz17_5 := blk_frozen BK101.out 5
 have hfz17_6 := blk_frozen BK101.out 6
 have hfz17_7 := blk_frozen BK101.out 7
 have hfz17_8 := blk_frozen BK101.out 8
 have hfz17_9 := blk_frozen BK101.out 9
 have hfz17_10 := blk_frozen BK101.out 10
 have hfz17_11 := blk_frozen BK101.out 11
 have hfz17_12 := blk_frozen BK101.out 12
 have hfz17_13 := blk_frozen BK101.out 13
 have hfz17_14 := blk_frozen BK101.out 14
 have hfz17_15 := blk_frozen BK101.out 15
 have hfz17_16 := blk_frozen BK101.out 16
 have hfz17_17 := blk_frozen BK101.out 17
 have hfz17_18 := blk_frozen BK101.out 18
 have hfz17_19 := blk_frozen BK101.out 19
 have hfz17_20 := blk_frozen BK101.out 20
 have hfz17_21 := blk_frozen BK101.out 21
 have hfz17_22 := blk_frozen BK101.out 22
 have hfz17_23 := blk_frozen BK101.out 23
 have hfz17_24 := blk_frozen BK101.out 24
 have hfz17_25 := blk_frozen BK101.out 25
 have hfz17_26 := blk_frozen BK101.out 26
 have hfz17_27 := blk_frozen BK101.out 27
 have hfz17_28 := blk_frozen BK101.out 28
 have hfz17_29 := blk_frozen BK101.out 29
 have hfz17_30 := blk_frozen BK101.out 30
 have hfz17_31 := blk_frozen BK101.out 31
 have hfz17_32 := blk_frozen BK101.out 32
 go_upto_region 11 with (first | (go_at_call 10; (with_reducible refine (drachmref04_Spec_Worth.calls k a0_0 a0_1 a0_2 a0_3 a0_4 a0_5 a0_6 a0_7 a0_8 a0_9 0 t103 t104 t105 t106 t107 t108 t109 t110 t111 t112 t113 _ A3.out).mono ?_); rintro e w18 ⟨rfl, hb⟩; replace BK101 := kb BK101 hb; replace HB := sb HB hb; (try clear hb); (try clear hb2); (try clear hk); (try clear hi)) | ((with_reducible refine gate_dst (N := 5) rfl ?_); refine box_event ?hg (N := 5) ?hd (cs := #[.int .i64 0, .int .i64 0, .int .i64 0, .int .i64 0, .int .i64 0, .int .i64 0, .int .i64 0, .int .i64 0, .int .i64 0, .int .i64 0, .int .i64 0]) (t := 31) ?hr ?_; (case hd => rfl); (case hg => rfl); (case hr => first | (go_simp; done) | (go_simp; rfl)); intro gb114 hg w19 hbox hb; have n0_ := kb BK101 hb; have n1_ := sb HB hb; have n2_ := Aside0.mk (hbox); have n3_ := Aside0.mk ((by rw [hg]; exact (below_size (bl HB.out)) : w.heap.size ≤ gb114)); have n4_ := Aside0.mk ((by rw [hg]; exact (below_size (bl HB.out)) : w.heap.size ≤ gb114)); have n5_ := Aside0.mk ((by rw [hg]; exact Nat.ne_of_lt (blk_lt (kp BK101.out)) : gb101 ≠ gb114)); have n6_ := Aside0.mk ((by rw [hg]; exact Nat.ne_of_gt (blk_lt (kp BK101.out)) : gb114 ≠ gb101)); clear BK101; clear HB; have BK101 := n0_; have HB := n1_; have BK114 := n2_; have GW114 := n3_; have GE114 := n4_; have NB101_114 := n5_; have NB114_101 := n6_; clear n0_ n1_ n2_ n3_ n4_ n5_ n6_; clear hb hbox hg; have hnb20 := NB114_101.out; have hnc20 := NB101_114.out; obtain ⟨hcz21_0, hcz21_1, hcz21_2, hcz21_3, hcz21_4, hcz21_5, hcz21_6, hcz21_7, hcz21_8, hcz21_9, hcz21_10⟩ := hc11 BK114.out; obtain ⟨hfz21_0, hfz21_1, hfz21_2, hfz21_3, hfz21_4, hfz21_5, hfz21_6, hfz21_7, hfz21_8, hfz21_9, hfz21_10⟩ := hf11 BK114.out; have hcz22_0 : w19.cell? ⟨gb101, 0, none⟩ = some (.int .i64 a0_0) := (blk_cell BK101.out 0).trans rfl; have hcz22_1 : w19.cell? ⟨gb101, 1, none⟩ = some (.int .i64 a0_1) := (blk_cell BK101.out 1).trans rfl; have hcz22_2 : w19.cell? ⟨gb101, 2, none⟩ = some (.int .i64 a0_2) := (blk_cell BK101.out 2).trans rfl; have hcz22_3 : w19.cell? ⟨gb101, 3, none⟩ = some (.int .i64 a0_3) := (blk_cell BK101.out 3).trans rfl; have hcz22_4 : w19.cell? ⟨gb101, 4, none⟩ = some (.int .i64 a0_4) := (blk_cell BK101.out 4).trans rfl; have hcz22_5 : w19.cell? ⟨gb101, 5, none⟩ = some (.int .i64 a0_5) := (blk_cell BK101.out 5).trans rfl; have hcz22_6 : w19.cell? ⟨gb101, 6, none⟩ = some (.int .i64 a0_6) := (blk_cell BK101.out 6).trans rfl; have hcz22_7 : w19.cell? ⟨gb101, 7, none⟩ = some (.int .i64 a0_7) := (blk_cell BK101.out 7).trans rfl; have hcz22_8 : w19.cell? ⟨gb101, 8, none⟩ = some (.int .i64 a0_8) := (blk_cell BK101.out 8).trans rfl; have hcz22_9 : w19.cell? ⟨gb101, 9, none⟩ = some (.int .i64 a0_9) := (blk_cell BK101.out 9).trans rfl; have hcz22_10 : w19.cell? ⟨gb101, 10, none⟩ = some (.int .i64 0) := (blk_cell BK101.out 10).trans rfl; have hcz22_11 : w19.cell? ⟨gb101, 11, none⟩ = some (.int .i64 a0_11) := (blk_cell BK101.out 11).trans rfl; have hcz22_12 : w19.cell? ⟨gb101, 12, none⟩ = some (.int .i64 a0_12) := (blk_cell BK101.out 12).trans rfl; have hcz22_13 : w19.cell? ⟨gb101, 13, none⟩ = some (.int .i64 a0_13) := (blk_cell BK101.out 13).trans rfl; have hcz22_14 : w19.cell? ⟨gb101, 14, none⟩ = some (.int .i64 a0_14) := (blk_cell BK101.out 14).trans rfl; have hcz22_15 : w19.cell? ⟨gb101, 15, none⟩ = some (.int .i64 a0_15) := (blk_cell BK101.out 15).trans rfl; have hcz22_16 : w19.cell? ⟨gb101, 16, none⟩ = some (.int .i64 a0_16) := (blk_cell BK101.out 16).trans rfl; have hcz22_17 : w19.cell? ⟨gb101, 17, none⟩ = some (.int .i64 a0_17) := (blk_cell BK101.out 17).trans rfl; have hcz22_18 : w19.cell? ⟨gb101, 18, none⟩ = some (.int .i64 a0_18) := (blk_cell BK101.out 18).trans rfl; have hcz22_19 : w19.cell? ⟨gb101, 19, none⟩ = some (.int .i64 a0_19) := (blk_cell BK101.out 19).trans rfl; have hcz22_20 : w19.cell? ⟨gb101, 20, none⟩ = some (.int .i64 a0_20) := (blk_cell BK101.out 20).trans rfl; have hcz22_21 : w19.cell? ⟨gb101, 21, none⟩ = some (.int .i64 0) := (blk_cell BK101.out 21).trans rfl; have hcz22_22 : w19.cell? ⟨gb101, 22, none⟩ = some (.int .i64 a0_22) := (blk_cell BK101.out 22).trans rfl; have hcz22_23 : w19.cell? ⟨gb101, 23, none⟩ = some (.int .i64 a0_23) := (blk_cell BK101.out 23).trans rfl; have hcz22_24 : w19.cell? ⟨gb101, 24, none⟩ = some (.int .i64 a0_24) := (blk_cell BK101.out 24).trans rfl; have hcz22_25 : w19.cell? ⟨gb101, 25, none⟩ = some (.int .i64 a0_25) := (blk_cell BK101.out 25).trans rfl; have hcz22_26 : w19.cell? ⟨gb101, 26, none⟩ = some (.int .i64 a0_26) := (blk_cell BK101.out 26).trans rfl; have hcz22_27 : w19.cell? ⟨gb101, 27, none⟩ = some (.int .i64 a0_27) := (blk_cell BK101.out 27).trans rfl; have hcz22_28 : w19.cell? ⟨gb101, 28, none⟩ = some (.int .i64 a0_28) := (blk_cell BK101.out 28).trans rfl; have hcz22_29 : w19.cell? ⟨gb101, 29, none⟩ = some (.int .i64 a0_29) := (blk_cell BK101.out 29).trans rfl; have hcz22_30 : w19.cell? ⟨gb101, 30, none⟩ = some (.int .i64 a0_30) := (blk_cell BK101.out 30).trans rfl; have hcz22_31 : w19.cell? ⟨gb101, 31, none⟩ = some (.int .i64 a0_31) := (blk_cell BK101.out 31).trans rfl; have hcz22_32 : w19.cell? ⟨gb101, 32, none⟩ = some (.int .i64 0) := (blk_cell BK101.out 32).trans rfl; have hfz22_0 := blk_frozen BK101.out 0; have hfz22_1 := blk_frozen BK101.out 1; have hfz22_2 := blk_frozen BK101.out 2; have hfz22_3 := blk_frozen BK101.out 3; have hfz22_4 := blk_frozen BK101.out 4; have hfz22_5 := blk_frozen BK101.out 5; have hfz22_6 := blk_frozen BK101.out 6; have hfz22_7 := blk_frozen BK101.out 7; have hfz22_8 := blk_frozen BK101.out 8; have hfz22_9 := blk_frozen BK101.out 9; have hfz22_10 := blk_frozen BK101.out 10; have hfz22_11 := blk_frozen BK101.out 11; have hfz22_12 := blk_frozen BK101.out 12; have hfz22_13 := blk_frozen BK101.out 13; have hfz22_14 := blk_frozen BK101.out 14; have hfz22_15 := blk_frozen BK101.out 15; have hfz22_16 := blk_frozen BK101.out 16; have hfz22_17 := blk_frozen BK101.out 17; have hfz22_18 := blk_frozen BK101.out 18; have hfz22_19 := blk_frozen BK101.out 19; have hfz22_20 := blk_frozen BK101.out 20; have hfz22_21 := blk_frozen BK101.out 21; have hfz22_22 := blk_frozen BK101.out 22; have hfz22_23 := blk_frozen BK101.out 23; have hfz22_24 := blk_frozen BK101.out 24; have hfz22_25 := blk_frozen BK101.out 25; have hfz22_26 := blk_frozen BK101.out 26; have hfz22_27 := blk_frozen BK101.out 27; have hfz22_28 := blk_frozen BK101.out 28; have hfz22_29 := blk_frozen BK101.out 29; have hfz22_30 := blk_frozen BK101.out 30; have hfz22_31 := blk_frozen BK101.out 31; have hfz22_32 := blk_frozen BK101.out 32) | (go_at_call 10; (with_reducible refine (drachmref04_Spec_Worth.calls k a0_11 a0_12 a0_13 a0_14 a0_15 a0_16 a0_17 a0_18 a0_19 a0_20 0 t115 t116 t117 t118 t119 t120 t121 t122 t123 t124 t125 _ A4.out).mono ?_); rintro e w23 ⟨rfl, hb⟩; replace BK101 := kb BK101 hb; replace BK114 := Aside0.mk (blk_below (kp (p11_10 (kp (p11_9 (kp (p11_8 (kp (p11_7 (kp (p11_6 (kp (p11_5 (kp (p11_4 (kp (p11_3 (kp (p11_2 (kp (p11_1 (kp (p11_0 (kp BK114.out))))))))))))))))))))))) hb); replace HB := sb HB hb; (try clear hb); (try clear hb2); (try clear hk); (try clear hi)) | ((with_reducible refine gate_dst (N := 6) rfl ?_); refine box_event ?hg (N := 6) ?hd (cs := #[.int .i64 0, .int .i64 0, .int .i64 0, .int .i64 0, .int .i64 0, .int .i64 0, .int .i64 0, .int .i64 0, .int .i64 0, .int .i64 0, .int .i64 0]) (t := 31) ?hr ?_; (case hd => rfl); (case hg => rfl); (case hr => first | (go_simp; done) | (go_simp; rfl)); intro gb126 hg w24 hbox hb; have n0_ := kb BK101 hb; have n1_ := kb BK114 hb; have n2_ := sb HB hb; have n3_ := Aside0.mk (hbox); have n4_ := Aside0.mk ((by rw [hg]; exact (below_size (bl HB.out)) : w.heap.size ≤ gb126)); have n5_ := Aside0.mk ((by rw [hg]; exact (below_size (bl HB.out)) : w.heap.size ≤ gb126)); have n6_ := Aside0.mk ((by rw [hg]; exact Nat.ne_of_lt (blk_lt (kp BK101.out)) : gb101 ≠ gb126)); have n7_ := Aside0.mk ((by rw [hg]; exact Nat.ne_of_gt (blk_lt (kp BK101.out)) : gb126 ≠ gb101)); have n8_ := Aside0.mk ((by rw [hg]; exact Nat.ne_of_lt (blk_lt (kp BK114.out)) : gb114 ≠ gb126)); have n9_ := Aside0.mk ((by rw [hg]; exact Nat.ne_of_gt (blk_lt (kp BK114.out)) : gb126 ≠ gb114)); clear BK101; clear BK114; clear HB; have BK101 := n0_; have BK114 := n1_; have HB := n2_; have BK126 := n3_; have GW126 := n4_; have GE126 := n5_; have NB101_126 := n6_; have NB126_101 := n7_; have NB114_126 := n8_; have NB126_114 := n9_; clear n0_ n1_ n2_ n3_ n4_ n5_ n6_ n7_ n8_ n9_; clear hb hbox hg; have hnb25 := NB126_101.out; have hnc25 := NB101_126.out; have hnb26 := NB126_114.out; have hnc26 := NB114_126.out; obtain ⟨hcz27_0, hcz27_1, hcz27_2, hcz27_3, hcz27_4, hcz27_5, hcz27_6, hcz27_7, hcz27_8, hcz27_9, hcz27_10⟩ := hc11 BK126.out; obtain ⟨hfz27_0, hfz27_1, hfz27_2, hfz27_3, hfz27_4, hfz27_5, hfz27_6, hfz27_7, hfz27_8, hfz27_9, hfz27_10⟩ := hf11 BK126.out; have hcz28_0 : w24.cell? ⟨gb101, 0, none⟩ = some (.int .i64 a0_0) := (blk_cell BK101.out 0).trans rfl; have hcz28_1 : w24.cell? ⟨gb101, 1, none⟩ = some (.int .i64 a0_1) := (blk_cell BK101.out 1).trans rfl; have hcz28_2 : w24.cell? ⟨gb101, 2, none⟩ = some (.int .i64 a0_2) := (blk_cell BK101.out 2).trans rfl; have hcz28_3 : w24.cell? ⟨gb101, 3, none⟩ = some (.int .i64 a0_3) := (blk_cell BK101.out 3).trans rfl; have hcz28_4 : w24.cell? ⟨gb101, 4, none⟩ = some (.int .i64 a0_4) := (blk_cell BK101.out 4).trans rfl; have hcz28_5 : w24.cell? ⟨gb101, 5, none⟩ = some (.int .i64 a0_5) := (blk_cell BK101.out 5).trans rfl; have hcz28_6 : w24.cell? ⟨gb101, 6, none⟩ = some (.int .i64 a0_6) := (blk_cell BK101.out 6).trans rfl; have hcz28_7 : w24.cell? ⟨gb101, 7, none⟩ = some (.int .i64 a0_7) := (blk_cell BK101.out 7).trans rfl; have hcz28_8 : w24.cell? ⟨gb101, 8, none⟩ = some (.int .i64 a0_8) := (blk_cell BK101.out 8).trans rfl; have hcz28_9 : w24.cell? ⟨gb101, 9, none⟩ = some (.int .i64 a0_9) := (blk_cell BK101.out 9).trans rfl; have hcz28_10 : w24.cell? ⟨gb101, 10, none⟩ = some (.int .i64 0) := (blk_cell BK101.out 10).trans rfl; have hcz28_11 : w24.cell? ⟨gb101, 11, none⟩ = some (.int .i64 a0_11) := (blk_cell BK101.out 11).trans rfl; have hcz28_12 : w24.cell? ⟨gb101, 12, none⟩ = some (.int .i64 a0_12) := (blk_cell BK101.out 12).trans rfl; have hcz28_13 : w24.cell? ⟨gb101, 13, none⟩ = some (.int .i64 a0_13) := (blk_cell BK101.out 13).trans rfl; have hcz28_14 : w24.cell? ⟨gb101, 14, none⟩ = some (.int .i64 a0_14) := (blk_cell BK101.out 14).trans rfl; have hcz28_15 : w24.cell? ⟨gb101, 15, none⟩ = some (.int .i64 a0_15) := (blk_cell BK101.out 15).trans rfl; have hcz28_16 : w24.cell? ⟨gb101, 16, none⟩ = some (.int .i64 a0_16) := (blk_cell BK101.out 16).trans rfl; have hcz28_17 : w24.cell? ⟨gb101, 17, none⟩ = some (.int .i64 a0_17) := (blk_cell BK101.out 17).trans rfl; have hcz28_18 : w24.cell? ⟨gb101, 18, none⟩ = some (.int .i64 a0_18) := (blk_cell BK101.out 18).trans rfl; have hcz28_19 : w24.cell? ⟨gb101, 19, none⟩ = some (.int .i64 a0_19) := (blk_cell BK101.out 19).trans rfl; have hcz28_20 : w24.cell? ⟨gb101, 20, none⟩ = some (.int .i64 a0_20) := (blk_cell BK101.out 20).trans rfl; have hcz28_21 : w24.cell? ⟨gb101, 21, none⟩ = some (.int .i64 0) := (blk_cell BK101.out 21).trans rfl; have hcz28_22 : w24.cell? ⟨gb101, 22, none⟩ = some (.int .i64 a0_22) := (blk_cell BK101.out 22).trans rfl; have hcz28_23 : w24.cell? ⟨gb101, 23, none⟩ = some (.int .i64 a0_23) := (blk_cell BK101.out 23).trans rfl; have hcz28_24 : w24.cell? ⟨gb101, 24, none⟩ = some (.int .i64 a0_24) := (blk_cell BK101.out 24).trans rfl; have hcz28_25 : w24.cell? ⟨gb101, 25, none⟩ = some (.int .i64 a0_25) := (blk_cell BK101.out 25).trans rfl; have hcz28_26 : w24.cell? ⟨gb101, 26, none⟩ = some (.int .i64 a0_26) := (blk_cell BK101.out 26).trans rfl; have hcz28_27 : w24.cell? ⟨gb101, 27, none⟩ = some (.int .i64 a0_27) := (blk_cell BK101.out 27).trans rfl; have hcz28_28 : w24.cell? ⟨gb101, 28, none⟩ = some (.int .i64 a0_28) := (blk_cell BK101.out 28).trans rfl; have hcz28_29 : w24.cell? ⟨gb101, 29, none⟩ = some (.int .i64 a0_29) := (blk_cell BK101.out 29).trans rfl; have hcz28_30 : w24.cell? ⟨gb101, 30, none⟩ = some (.int .i64 a0_30) := (blk_cell BK101.out 30).trans rfl; have hcz28_31 : w24.cell? ⟨gb101, 31, none⟩ = some (.int .i64 a0_31) := (blk_cell BK101.out 31).trans rfl; have hcz28_32 : w24.cell? ⟨gb101, 32, none⟩ = some (.int .i64 0) := (blk_cell BK101.out 32).trans rfl; have hfz28_0 := blk_frozen BK101.out 0; have hfz28_1 := blk_frozen BK101.out 1; have hfz28_2 := blk_frozen BK101.out 2; have hfz28_3 := blk_frozen BK101.out 3; have hfz28_4 := blk_frozen BK101.out 4; have hfz28_5 := blk_frozen BK101.out 5; have hfz28_6 := blk_frozen BK101.out 6; have hfz28_7 := blk_frozen BK101.out 7; have hfz28_8 := blk_frozen BK101.out 8; have hfz28_9 := blk_frozen BK101.out 9; have hfz28_10 := blk_frozen BK101.out 10; have hfz28_11 := blk_frozen BK101.out 11; have hfz28_12 := blk_frozen BK101.out 12; have hfz28_13 := blk_frozen BK101.out 13; have hfz28_14 := blk_frozen BK101.out 14; have hfz28_15 := blk_frozen BK101.out 15; have hfz28_16 := blk_frozen BK101.out 16; have hfz28_17 := blk_frozen BK101.out 17; have hfz28_18 := blk_frozen BK101.out 18; have hfz28_19 := blk_frozen BK101.out 19; have hfz28_20 := blk_frozen BK101.out 20; have hfz28_21 := blk_frozen BK101.out 21; have hfz28_22 := blk_frozen BK101.out 22; have hfz28_23 := blk_frozen BK101.out 23; have hfz28_24 := blk_frozen BK101.out 24; have hfz28_25 := blk_frozen BK101.out 25; have hfz28_26 := blk_frozen BK101.out 26; have hfz28_27 := blk_frozen BK101.out 27; have hfz28_28 := blk_frozen BK101.out 28; have hfz28_29 := blk_frozen BK101.out 29; have hfz28_30 := blk_frozen BK101.out 30; have hfz28_31 := blk_frozen BK101.out 31; have hfz28_32 := blk_frozen BK101.out 32) | (go_at_call 10; (with_reducible refine (drachmref04_Spec_Worth.calls k a0_22 a0_23 a0_24 a0_25 a0_26 a0_27 a0_28 a0_29 a0_30 a0_31 0 t127 t128 t129 t130 t131 t132 t133 t134 t135 t136 t137 _ A5.out).mono ?_); rintro e w29 ⟨rfl, hb⟩; replace BK101 := kb BK101 hb; replace BK114 := kb BK114 hb; replace BK126 := Aside0.mk (blk_below (kp (p11_10 (kp (p11_9 (kp (p11_8 (kp (p11_7 (kp (p11_6 (kp (p11_5 (kp (p11_4 (kp (p11_3 (kp (p11_2 (kp (p11_1 (kp (p11_0 (kp BK126.out))))))))))))))))))))))) hb); replace HB := sb HB hb; (try clear hb); (try clear hb2); (try clear hk); (try clear hi)) | ((with_reducible refine gate_dst (N := 7) rfl ?_); refine box_event ?hg (N := 7) ?hd (cs := #[.int .i64 0, .int .i64 0, .int .i64 0, .int .i64 0, .int .i64 0, .int .i64 0, .int .i64 0, .int .i64 0, .int .i64 0, .int .i64 0, .int .i64 0]) (t := 31) ?hr ?_; (case hd => rfl); (case hg => rfl); (case hr => first | (go_simp; done) | (go_simp; rfl)); intro gb138 hg w30 hbox hb; have n0_ := kb BK101 hb; have n1_ := kb BK114 hb; have n2_ := kb BK126 hb; have n3_ := sb HB hb; have n4_ := Aside0.mk (hbox); have n5_ := Aside0.mk ((by rw [hg]; exact (below_size (bl HB.out)) : w.heap.size ≤ gb138)); have n6_ := Aside0.mk ((by rw [hg]; exact (below_size (bl HB.out)) : w.heap.size ≤ gb138)); have n7_ := Aside0.mk ((by rw [hg]; exact Nat.ne_of_lt (blk_lt (kp BK101.out)) : gb101 ≠ gb138)); have n8_ := Aside0.mk ((by rw [hg]; exact Nat.ne_of_gt (blk_lt (kp BK101.out)) : gb138 ≠ gb101)); have n9_ := Aside0.mk ((by rw [hg]; exact Nat.ne_of_lt (blk_lt (kp BK114.out)) : gb114 ≠ gb138)); have n10_ := Aside0.mk ((by rw [hg]; exact Nat.ne_of_gt (blk_lt (kp BK114.out)) : gb138 ≠ gb114)); have n11_ := Aside0.mk ((by rw [hg]; exact Nat.ne_of_lt (blk_lt (kp BK126.out)) : gb126 ≠ gb138)); have n12_ := Aside0.mk ((by rw [hg]; exact Nat.ne_of_gt (blk_lt (kp BK126.out)) : gb138 ≠ gb126)); clear BK101; clear BK114; clear BK126; clear HB; have BK101 := n0_; have BK114 := n1_; have BK126 := n2_; have HB := n3_; have BK138 := n4_; have GW138 := n5_; have GE138 := n6_; have NB101_138 := n7_; have NB138_101 := n8_; have NB114_138 := n9_; have NB138_114 := n10_; have NB126_138 := n11_; have NB138_126 := n12_; clear n0_ n1_ n2_ n3_ n4_ n5_ n6_ n7_ n8_ n9_ n10_ n11_ n12_; clear hb hbox hg; have hnb31 := NB138_101.out; have hnc31 := NB101_138.out; have hnb32 := NB138_114.out; have hnc32 := NB114_138.out; have hnb33 := NB138_126.out; have hnc33 := NB126_138.out; obtain ⟨hcz34_0, hcz34_1, hcz34_2, hcz34_3, hcz34_4, hcz34_5, hcz34_6, hcz34_7, hcz34_8, hcz34_9, hcz34_10⟩ := hc11 BK138.out; obtain ⟨hfz34_0, hfz34_1, hfz34_2, hfz34_3, hfz34_4, hfz34_5, hfz34_6, hfz34_7, hfz34_8, hfz34_9, hfz34_10⟩ := hf11 BK138.out; obtain ⟨hcz35_0, hcz35_1, hcz35_2, hcz35_3, hcz35_4, hcz35_5, hcz35_6, hcz35_7, hcz35_8, hcz35_9, hcz35_10⟩ := hc11 BK114.out; obtain ⟨hfz35_0, hfz35_1, hfz35_2, hfz35_3, hfz35_4, hfz35_5, hfz35_6, hfz35_7, hfz35_8, hfz35_9, hfz35_10⟩ := hf11 BK114.out; obtain ⟨hcz36_0, hcz36_1, hcz36_2, hcz36_3, hcz36_4, hcz36_5, hcz36_6, hcz36_7, hcz36_8, hcz36_9, hcz36_10⟩ := hc11 BK126.out; obtain ⟨hfz36_0, hfz36_1, hfz36_2, hfz36_3, hfz36_4, hfz36_5, hfz36_6, hfz36_7, hfz36_8, hfz36_9, hfz36_10⟩ := hf11 BK126.out) | (go_at_call 13; (with_reducible refine (worth_Mul.calls k t103 t104 t105 t106 t107 t108 t109 t110 t111 t112 t113 t115 t116 t117 t118 t119 t120 t121 t122 t123 t124 t125 t139 t140 t141 t142 t143 t144 t145 t146 t147 t148 t149 t150 _ (Glob.use hG (by decide) (bl HB.out)) A6.out).mono ?_); rintro e w37 ⟨rfl, hb⟩; replace BK101 := kb BK101 hb; replace BK114 := kb BK114 hb; replace BK126 := kb BK126 hb; replace BK138 := Aside0.mk (blk_below (kp (p11_10 (kp (p11_9 (kp (p11_8 (kp (p11_7 (kp (p11_6 (kp (p11_5 (kp (p11_4 (kp (p11_3 (kp (p11_2 (kp (p11_1 (kp (p11_0 (kp BK138.out))))))))))))))))))))))) hb); replace HB := sb HB hb; (try clear hb); (try clear hb2); (try clear hk); (try clear hi)) | ((with_reducible refine gate_dst (N := 8) rfl ?_); refine box_event ?hg (N := 8) ?hd (cs := #[.int .i64 0, .int .i64 0, .int .i64 0, .int .i64 0, .int .i64 0, .int .i64 0, .int .i64 0, .int .i64 0, .int .i64 0, .int .i64 0, .int .i64 0]) (t := 31) ?hr ?_; (case hd => rfl); (case hg => rfl); (case hr => first | (go_simp; done) | (go_simp; rfl)); intro gb151 hg w38 hbox hb; have n0_ := kb BK101 hb; have n1_ := kb BK114 hb; have n2_ := kb BK126 hb; have n3_ := kb BK138 hb; have n4_ := sb HB hb; have n5_ := Aside0.mk (hbox); have n6_ := Aside0.mk ((by rw [hg]; exact (below_size (bl HB.out)) : w.heap.size ≤ gb151)); have n7_ := Aside0.mk ((by rw [hg]; exact (below_size (bl HB.out)) : w.heap.size ≤ gb151)); have n8_ := Aside0.mk ((by rw [hg]; exact Nat.ne_of_lt (blk_lt (kp BK101.out)) : gb101 ≠ gb151)); have n9_ := Aside0.mk ((by rw [hg]; exact Nat.ne_of_gt (blk_lt (kp BK101.out)) : gb151 ≠ gb101)); have n10_ := Aside0.mk ((by rw [hg]; exact Nat.ne_of_lt (blk_lt (kp BK114.out)) : gb114 ≠ gb151)); have n11_ := Aside0.mk ((by rw [hg]; exact Nat.ne_of_gt (blk_lt (kp BK114.out)) : gb151 ≠ gb114)); have n12_ := Aside0.mk ((by rw [hg]; exact Nat.ne_of_lt (blk_lt (kp BK126.out)) : gb126 ≠ gb151)); have n13_ := Aside0.mk ((by rw [hg]; exact Nat.ne_of_gt (blk_lt (kp BK126.out)) : gb151 ≠ gb126)); have n14_ := Aside0.mk ((by rw [hg]; exact Nat.ne_of_lt (blk_lt (kp BK138.out)) : gb138 ≠ gb151)); have n15_ := Aside0.mk ((by rw [hg]; exact Nat.ne_of_gt (blk_lt (kp BK138.out)) : gb151 ≠ gb138)); clear BK101; clear BK114; clear BK126; clear BK138; clear HB; have BK101 := n0_; have BK114 := n1_; have BK126 := n2_; have BK138 := n3_; have HB := n4_; have BK151 := n5_; have GW151 := n6_; have GE151 := n7_; have NB101_151 := n8_; have NB151_101 := n9_; have NB114_151 := n10_; have NB151_114 := n11_; have NB126_151 := n12_; have NB151_126 := n13_; have NB138_151 := n14_; have NB151_138 := n15_; clear n0_ n1_ n2_ n3_ n4_ n5_ n6_ n7_ n8_ n9_ n10_ n11_ n12_ n13_ n14_ n15_; clear hb hbox hg; have hnb39 := NB151_101.out; have hnc39 := NB101_151.out; have hnb40 := NB151_114.out; have hnc40 := NB114_151.out; have hnb41 := NB151_126.out; have hnc41 := NB126_151.out; have hnb42 := NB151_138.out; have hnc42 := NB138_151.out; obtain ⟨hcz43_0, hcz43_1, hcz43_2, hcz43_3, hcz43_4, hcz43_5, hcz43_6, hcz43_7, hcz43_8, hcz43_9, hcz43_10⟩ := hc11 BK151.out; obtain ⟨hfz43_0, hfz43_1, hfz43_2, hfz43_3, hfz43_4, hfz43_5, hfz43_6, hfz43_7, hfz43_8, hfz43_9, hfz43_10⟩ := hf11 BK151.out; obtain ⟨hcz44_0, hcz44_1, hcz44_2, hcz44_3, hcz44_4, hcz44_5, hcz44_6, hcz44_7, hcz44_8, hcz44_9, hcz44_10⟩ := hc11 BK126.out; obtain ⟨hfz44_0, hfz44_1, hfz44_2, hfz44_3, hfz44_4, hfz44_5, hfz44_6, hfz44_7, hfz44_8, hfz44_9, hfz44_10⟩ := hf11 BK126.out; obtain ⟨hcz45_0, hcz45_1, hcz45_2, hcz45_3, hcz45_4, hcz45_5, hcz45_6, hcz45_7, hcz45_8, hcz45_9, hcz45_10⟩ := hc11 BK138.out; obtain ⟨hfz45_0, hfz45_1, hfz45_2, hfz45_3, hfz45_4, hfz45_5, hfz45_6, hfz45_7, hfz45_8, hfz45_9, hfz45_10⟩ := hf11 BK138.out) | (go_at_call 13; (with_reducible refine (worth_Mul.calls k t115 t116 t117 t118 t119 t120 t121 t122 t123 t124 t125 t127 t128 t129 t130 t131 t132 t133 t134 t135 t136 t137 t152 t153 t154 t155 t156 t157 t158 t159 t160 t161 t162 t163 _ (Glob.use hG (by decide) (bl HB.out)) A7.out).mono ?_); rintro e w46 ⟨rfl, hb⟩; replace BK101 := kb BK101 hb; replace BK114 := kb BK114 hb; replace BK126 := kb BK126 hb; replace BK138 := kb BK138 hb; replace BK151 := Aside0.mk (blk_below (kp (p11_10 (kp (p11_9 (kp (p11_8 (kp (p11_7 (kp (p11_6 (kp (p11_5 (kp (p11_4 (kp (p11_3 (kp (p11_2 (kp (p11_1 (kp (p11_0 (kp BK151.out))))))))))))))))))))))) hb); replace HB := sb HB hb; (try clear hb); (try clear hb2); (try clear hk); (try clear hi)) | ((with_reducible refine gate_dst (N := 10) rfl ?_); refine box_event ?hg (N := 10) ?hd (cs := #[.int .i64 0, .int .i64 0, .int .i64 0, .int .i64 0, .int .i64 0, .int .i64 0, .int .i64 0, .int .i64 0, .int .i64 0, .int .i64 0, .int .i64 0]) (t := 31) ?hr ?_; (case hd => rfl); (case hg => rfl); (case hr => first | (go_simp; done) | (go_simp; rfl)); intro gb164 hg w47 hbox hb; have n0_ := kb BK101 hb; have n1_ := kb BK114 hb; have n2_ := kb BK126 hb; have n3_ := kb BK138 hb; have n4_ := kb BK151 hb; have n5_ := sb HB hb; have n6_ := Aside0.mk (hbox); have n7_ := Aside0.mk ((by rw [hg]; exact (below_size (bl HB.out)) : w.heap.size ≤ gb164)); have n8_ := Aside0.mk ((by rw [hg]; exact (below_size (bl HB.out)) : w.heap.size ≤ gb164)); have n9_ := Aside0.mk ((by rw [hg]; exact Nat.ne_of_lt (blk_lt (kp BK101.out)) : gb101 ≠ gb164)); have n10_ := Aside0.mk ((by rw [hg]; exact Nat.ne_of_gt (blk_lt (kp BK101.out)) : gb164 ≠ gb101)); have n11_ := Aside0.mk ((by rw [hg]; exact Nat.ne_of_lt (blk_lt (kp BK114.out)) : gb114 ≠ gb164)); have n12_ := Aside0.mk ((by rw [hg]; exact Nat.ne_of_gt (blk_lt (kp BK114.out)) : gb164 ≠ gb114)); have n13_ := Aside0.mk ((by rw [hg]; exact Nat.ne_of_lt (blk_lt (kp BK126.out)) : gb126 ≠ gb164)); have n14_ := Aside0.mk ((by rw [hg]; exact Nat.ne_of_gt (blk_lt (kp BK126.out)) : gb164 ≠ gb126)); have n15_ := Aside0.mk ((by rw [hg]; exact Nat.ne_of_lt (blk_lt (kp BK138.out)) : gb138 ≠ gb164)); have n16_ := Aside0.mk ((by rw [hg]; exact Nat.ne_of_gt (blk_lt (kp BK138.out)) : gb164 ≠ gb138)); have n17_ := Aside0.mk ((by rw [hg]; exact Nat.ne_of_lt (blk_lt (kp BK151.out)) : gb151 ≠ gb164)); have n18_ := Aside0.mk ((by rw [hg]; exact Nat.ne_of_gt (blk_lt (kp BK151.out)) : gb164 ≠ gb151)); clear BK101; clear BK114; clear BK126; clear BK138; clear BK151; clear HB; have BK101 := n0_; have BK114 := n1_; have BK126 := n2_; have BK138 := n3_; have BK151 := n4_; have HB := n5_; have BK164 := n6_; have GW164 := n7_; have GE164 := n8_; have NB101_164 := n9_; have NB164_101 := n10_; have NB114_164 := n11_; have NB164_114 := n12_; have NB126_164 := n13_; have NB164_126 := n14_; have NB138_164 := n15_; have NB164_138 := n16_; have NB151_164 := n17_; have NB164_151 := n18_; clear n0_ n1_ n2_ n3_ n4_ n5_ n6_ n7_ n8_ n9_ n10_ n11_ n12_ n13_ n14_ n15_ n16_ n17_ n18_; clear hb hbox hg; have hnb48 := NB164_101.out; have hnc48 := NB101_164.out; have hnb49 := NB164_114.out; have hnc49 := NB114_164.out; have hnb50 := NB164_126.out; have hnc50 := NB126_164.out; have hnb51 := NB164_138.out; have hnc51 := NB138_164.out; have hnb52 := NB164_151.out; have hnc52 := NB151_164.out; obtain ⟨hcz53_0, hcz53_1, hcz53_2, hcz53_3, hcz53_4, hcz53_5, hcz53_6, hcz53_7, hcz53_8, hcz53_9, hcz53_10⟩ := hc11 BK164.out; obtain ⟨hfz53_0, hfz53_1, hfz53_2, hfz53_3, hfz53_4, hfz53_5, hfz53_6, hfz53_7, hfz53_8, hfz53_9, hfz53_10⟩ := hf11 BK164.out))
 (try simp only [Act.put, List.setIfInBounds_toArray, List.set_cons_zero, List.set_cons_succ])
 go_cut [50] (fun v50 wc => ∃ (kq : Nat) (x50_7 : Bool), v50 = .bool x50_7 ∧ Aside0 (drachmlaw04_WorthChains.j0 kq t102 t150 t163 x50_7 t103 t104 t105 t106 t107 t108 t109 t110 t111 t112 t113 t127 t128 t129 t130 t131 t132 t133 t134 t135 t136 t137 t139 t140 t141 t142 t143 t144 t145 t146 t147 t148 t149 t152 t153 t154 t155 t156 t157 t158 t159 t160 t161 t162 = some r) ∧ Aside0 (kq ≤ k) ∧ Aside0 (wc.heap[gb101]? = some (.cells #[.int .i64 a0_0, .int .i64 a0_1, .int .i64 a0_2, .int .i64 a0_3, .int .i64 a0_4, .int .i64 a0_5, .int .i64 a0_6, .int .i64 a0_7, .int .i64 a0_8, .int .i64 a0_9, .int .i64 0, .int .i64 a0_11, .int .i64 a0_12, .int .i64 a0_13, .int .i64 a0_14, .int .i64 a0_15, .int .i64 a0_16, .int .i64 a0_17, .int .i64 a0_18, .int .i64 a0_19, .int .i64 a0_20, .int .i64 0, .int .i64 a0_22, .int .i64 a0_23, .int .i64 a0_24, .int .i64 a0_25, .int .i64 a0_26, .int .i64 a0_27, .int .i64 a0_28, .int .i64 a0_29, .int .i64 a0_30, .int .i64 a0_31, .int .i64 0] 36 (0, 0))) ∧ Aside0 (wc.heap[gb114]? = some (.cells #[.int .i64 t103, .int .i64 t104, .int .i64 t105, .int .i64 t106, .int .i64 t107, .int .i64 t108, .int .i64 t109, .int .i64 t110, .int .i64 t111, .int .i64 t112, .int .i64 t113] 31 (0, 0))) ∧ Aside0 (wc.heap[gb126]? = some (.cells #[.int .i64 t115, .int .i64 t116, .int .i64 t117, .int .i64 t118, .int .i64 t119, .int .i64 t120, .int .i64 t121, .int .i64 t122, .int .i64 t123, .int .i64 t124, .int .i64 t125] 31 (0, 0))) ∧ Aside0 (wc.heap[gb138]? = some (.cells #[.int .i64 t127, .int .i64 t128, .int .i64 t129, .int .i64 t130, .int .i64 t131, .int .i64 t132, .int .i64 t133, .int .i64 t134, .int .i64 t135, .int .i64 t136, .int .i64 t137] 31 (0, 0))) ∧ Aside0 (wc.heap[gb151]? = some (.cells #[.int .i64 t139, .int .i64 t140, .int .i64 t141, .int .i64 t142, .int .i64 t143, .int .i64 t144, .int .i64 t145, .int .i64 t146, .int .i64 t147, .int .i64 t148, .int .i64 t149] 31 (0, 0))) ∧ Aside0 (wc.heap[gb164]? = some (.cells #[.int .i64 t152, .int .i64 t153, .int .i64 t154, .int .i64 t155, .int .i64 t156, .int .i64 t157, .int .i64 t158, .int .i64 t159, .int .i64 t160, .int .i64 t161, .int .i64 t162] 31 (0, 0))) ∧ Aside0 (Below w.heap.size w wc))
 case first =>
  have H := HC8.out
  clear HC8
  by_cases c54 : t150 = 0
  ·rw [if_pos c54] at H
   have c54b0 : (t150 == 0) = true := beq_iff_eq.mpr c54
   have c54b1 : (t150 != 0) = false := bne_eq_false_iff_eq.mpr c54
   clear c54
   (first | rw [c54b0] | (simp only [i64_w, i32_w]; rw [c54b0]) | skip)
   have H' := Aside0.mk H
   clear H
   go_wp2
   go_meet
   case rel => exact ⟨_, ((t163 != 0)), (by first | rfl | (simp; done) | (simp [*]; done)), H', ⟨by first | omega | exact Nat.le_refl _⟩, ⟨kp BK101.out⟩, ⟨kp BK114.out⟩, ⟨kp BK126.out⟩, ⟨kp BK138.out⟩, ⟨kp BK151.out⟩, ⟨kp (p11_10 (kp (p11_9 (kp (p11_8 (kp (p11_7 (kp (p11_6 (kp (p11_5 (kp (p11_4 (kp (p11_3 (kp (p11_2 (kp (p11_1 (kp (p11_0 (kp BK164.out))))))))))))))))))))))⟩, ⟨bl HB.out⟩⟩
  ·rw [if_neg c54] at H
   have c54b0 : (t150 == 0) = false := beq_eq_false_iff_ne.mpr c54
   have c54b1 : (t150 != 0) = true := bne_iff_ne.mpr c54
   (first | rw [c54b0] | (simp only [i64_w, i32_w]; rw [c54b0]) | skip)
   have H' := Aside0.mk H
   clear H
   go_wp2
   go_meet
   case rel => exact ⟨_, (true), (by first | rfl | (simp; done) | (simp [*]; done)), H', ⟨by first | omega | exact Nat.le_refl _⟩, ⟨kp BK101.out⟩, ⟨kp BK114.out⟩, ⟨kp BK126.out⟩, ⟨kp BK138.out⟩, ⟨kp BK151.out⟩, ⟨kp (p11_10 (kp (p11_9 (kp (p11_8 (kp (p11_7 (kp (p11_6 (kp (p11_5 (kp (p11_4 (kp (p11_3 (kp (p11_2 (kp (p11_1 (kp (p11_0 (kp BK164.out))))))))))))))))))))))⟩, ⟨bl HB.out⟩⟩
 case rest =>
  clear HC8
  try clear c1
  try clear c2
  try clear p2
  try clear c3
  try clear c4
  try clear c5
  try clear c9
  try clear c10
  try clear c13
  try clear c20
  try clear c25
  try clear c26
  try clear c31
  try clear c32
  try clear c33
  try clear c39
  try clear c40
  try clear c41
  try clear c42
  try clear c48
  try clear c49
  try clear c50
  try clear c51
  try clear c52
  try clear c54
  try clear c54b0
  try clear c54b1
  try clear hcz11_0 hcz11_1 hcz11_10 hcz11_11 hcz11_12 hcz11_13 hcz11_14 hcz11_15 hcz11_16 hcz11_17 hcz11_18 hcz11_19 hcz11_2 hcz11_20 hcz11_21 hcz11_22 hcz11_23 hcz11_24 hcz11_25 hcz11_26 hcz11_27 hcz11_28 hcz11_29 hcz11_3 hcz11_30 hcz11_31 hcz11_32 hcz11_4 hcz11_5 hcz11_6 hcz11_7 hcz11_8 hcz11_9
  try clear hcz13_0 hcz13_1 hcz13_10 hcz13_11 hcz13_12 hcz13_13 hcz13_14 hcz13_15 hcz13_16 hcz13_17 hcz13_18 hcz13_19 hcz13_2 hcz13_20 hcz13_21 hcz13_22 hcz13_23 hcz13_24 hcz13_25 hcz13_26 hcz13_27 hcz13_28 hcz13_29 hcz13_3 hcz13_30 hcz13_31 hcz13_32 hcz13_4 hcz13_5 hcz13_6 hcz13_7 hcz13_8 hcz13_9
  try clear hcz15_0 hcz15_1 hcz15_10 hcz15_11 hcz15_12 hcz15_13 hcz15_14 hcz15_15 hcz15_16 hcz15_17 hcz15_18 hcz15_19 hcz15_2 hcz15_20 hcz15_21 hcz15_22 hcz15_23 hcz15_24 hcz15_25 hcz15_26 hcz15_27 hcz15_28 hcz15_29 hcz15_3 hcz15_30 hcz15_31 hcz15_32 hcz15_4 hcz15_5 hcz15_6 hcz15_7 hcz15_8 hcz15_9
  try clear hcz17_0 hcz17_1 hcz17_10 hcz17_11 hcz17_12 hcz17_13 hcz17_14 hcz17_15 hcz17_16 hcz17_17 hcz17_18 hcz17_19 hcz17_2 hcz17_20 hcz17_21 hcz17_22 hcz17_23 hcz17_24 hcz17_25 hcz17_26 hcz17_27 hcz17_28 hcz17_29 hcz17_3 hcz17_30 hcz17_31 hcz17_32 hcz17_4 hcz17_5 hcz17_6 hcz17_7 hcz17_8 hcz17_9
  try clear hcz21_0 hcz21_1 hcz21_10 hcz21_2 hcz21_3 hcz21_4 hcz21_5 hcz21_6 hcz21_7 hcz21_8 hcz21_9
  try clear hcz22_0 hcz22_1 hcz22_10 hcz22_11 hcz22_12 hcz22_13 hcz22_14 hcz22_15 hcz22_16 hcz22_17 hcz22_18 hcz22_19 hcz22_2 hcz22_20 hcz22_21 hcz22_22 hcz22_23 hcz22_24 hcz22_25 hcz22_26 hcz22_27 hcz22_28 hcz22_29 hcz22_3 hcz22_30 hcz22_31 hcz22_32 hcz22_4 hcz22_5 hcz22_6 hcz22_7 hcz22_8 hcz22_9
  try clear hcz27_0 hcz27_1 hcz27_10 hcz27_2 hcz27_3 hcz27_4 hcz27_5 hcz27_6 hcz27_7 hcz27_8 hcz27_9
  try clear hcz28_0 hcz28_1 hcz28_10 hcz28_11 hcz28_12 hcz28_13 hcz28_14 hcz28_15 hcz28_16 hcz28_17 hcz28_18 hcz28_19 hcz28_2 hcz28_20 hcz28_21 hcz28_22 hcz28_23 hcz28_24 hcz28_25 hcz28_26 hcz28_27 hcz28_28 hcz28_29 hcz28_3 hcz28_30 hcz28_31 hcz28_32 hcz28_4 hcz28_5 hcz28_6 hcz28_7 hcz28_8 hcz28_9
  try clear hcz34_0 hcz34_1 hcz34_10 hcz34_2 hcz34_3 hcz34_4 hcz34_5 hcz34_6 hcz34_7 hcz34_8 hcz34_9
  try clear hcz35_0 hcz35_1 hcz35_10 hcz35_2 hcz35_3 hcz35_4 hcz35_5 hcz35_6 hcz35_7 hcz35_8 hcz35_9
  try clear hcz36_0 hcz36_1 hcz36_10 hcz36_2 hcz36_3 hcz36_4 hcz36_5 hcz36_6 hcz36_7 hcz36_8 hcz36_9
  try clear hcz43_0 hcz43_1 hcz43_10 hcz43_2 hcz43_3 hcz43_4 hcz43_5 hcz43_6 hcz43_7 hcz43_8 hcz43_9
  try clear hcz44_0 hcz44_1 hcz44_10 hcz44_2 hcz44_3 hcz44_4 hcz44_5 hcz44_6 hcz44_7 hcz44_8 hcz44_9
  try clear hcz45_0 hcz45_1 hcz45_10 hcz45_2 hcz45_3 hcz45_4 hcz45_5 hcz45_6 hcz45_7 hcz45_8 hcz45_9
  try clear hcz53_0 hcz53_1 hcz53_10 hcz53_2 hcz53_3 hcz53_4 hcz53_5 hcz53_6 hcz53_7 hcz53_8 hcz53_9
  try clear hfz11_0 hfz11_1 hfz11_10 hfz11_11 hfz11_12 hfz11_13 hfz11_14 hfz11_15 hfz11_16 hfz11_17 hfz11_18 hfz11_19 hfz11_2 hfz11_20 hfz11_21 hfz11_22 hfz11_23 hfz11_24 hfz11_25 hfz11_26 hfz11_27 hfz11_28 hfz11_29 hfz11_3 hfz11_30 hfz11_31 hfz11_32 hfz11_4 hfz11_5 hfz11_6 hfz11_7 hfz11_8 hfz11_9
  try clear hfz13_0 hfz13_1 hfz13_10 hfz13_11 hfz13_12 hfz13_13 hfz13_14 hfz13_15 hfz13_16 hfz13_17 hfz13_18 hfz13_19 hfz13_2 hfz13_20 hfz13_21 hfz13_22 hfz13_23 hfz13_24 hfz13_25 hfz13_26 hfz13_27 hfz13_28 hfz13_29 hfz13_3 hfz13_30 hfz13_31 hfz13_32 hfz13_4 hfz13_5 hfz13_6 hfz13_7 hfz13_8 hfz13_9
  try clear hfz15_0 hfz15_1 hfz15_10 hfz15_11 hfz15_12 hfz15_13 hfz15_14 hfz15_15 hfz15_16 hfz15_17 hfz15_18 hfz15_19 hfz15_2 hfz15_20 hfz15_21 hfz15_22 hfz15_23 hfz15_24 hfz15_25 hfz15_26 hfz15_27 hfz15_28 hfz15_29 hfz15_3 hfz15_30 hfz15_31 hfz15_32 hfz15_4 hfz15_5 hfz15_6 hfz15_7 hfz15_8 hfz15_9
  try clear hfz17_0 hfz17_1 hfz17_10 hfz17_11 hfz17_12 hfz17_13 hfz17_14 hfz17_15 hfz17_16 hfz17_17 hfz17_18 hfz17_19 hfz17_2 hfz17_20 hfz17_21 hfz17_22 hfz17_23 hfz17_24 hfz17_25 hfz17_26 hfz17_27 hfz17_28 hfz17_29 hfz17_3 hfz17_30 hfz17_31 hfz17_32 hfz17_4 hfz17_5 hfz17_6 hfz17_7 hfz17_8 hfz17_9
  try clear hfz21_0 hfz21_1 hfz21_10 hfz21_2 hfz21_3 hfz21_4 hfz21_5 hfz21_6 hfz21_7 hfz21_8 hfz21_9
  try clear hfz22_0 hfz22_1 hfz22_10 hfz22_11 hfz22_12 hfz22_13 hfz22_14 hfz22_15 hfz22_16 hfz22_17 hfz22_18 hfz22_19 hfz22_2 hfz22_20 hfz22_21 hfz22_22 hfz22_23 hfz22_24 hfz22_25 hfz22_26 hfz22_27 hfz22_28 hfz22_29 hfz22_3 hfz22_30 hfz22_31 hfz22_32 hfz22_4 hfz22_5 hfz22_6 hfz22_7 hfz22_8 hfz22_9
  try clear hfz27_0 hfz27_1 hfz27_10 hfz27_2 hfz27_3 hfz27_4 hfz27_5 hfz27_6 hfz27_7 hfz27_8 hfz27_9
  try clear hfz28_0 hfz28_1 hfz28_10 hfz28_11 hfz28_12 hfz28_13 hfz28_14 hfz28_15 hfz28_16 hfz28_17 hfz28_18 hfz28_19 hfz28_2 hfz28_20 hfz28_21 hfz28_22 hfz28_23 hfz28_24 hfz28_25 hfz28_26 hfz28_27 hfz28_28 hfz28_29 hfz28_3 hfz28_30 hfz28_31 hfz28_32 hfz28_4 hfz28_5 hfz28_6 hfz28_7 hfz28_8 hfz28_9
  try clear hfz34_0 hfz34_1 hfz34_10 hfz34_2 hfz34_3 hfz34_4 hfz34_5 hfz34_6 hfz34_7 hfz34_8 hfz34_9
  try clear hfz35_0 hfz35_1 hfz35_10 hfz35_2 hfz35_3 hfz35_4 hfz35_5 hfz35_6 hfz35_7 hfz35_8 hfz35_9
  try clear hfz36_0 hfz36_1 hfz36_10 hfz36_2 hfz36_3 hfz36_4 hfz36_5 hfz36_6 hfz36_7 hfz36_8 hfz36_9
  try clear hfz43_0 hfz43_1 hfz43_10 hfz43_2 hfz43_3 hfz43_4 hfz43_5 hfz43_6 hfz43_7 hfz43_8 hfz43_9
  try clear hfz44_0 hfz44_1 hfz44_10 hfz44_2 hfz44_3 hfz44_4 hfz44_5 hfz44_6 hfz44_7 hfz44_8 hfz44_9
  try clear hfz45_0 hfz45_1 hfz45_10 hfz45_2 hfz45_3 hfz45_4 hfz45_5 hfz45_6 hfz45_7 hfz45_8 hfz45_9
  try clear hfz53_0 hfz53_1 hfz53_10 hfz53_2 hfz53_3 hfz53_4 hfz53_5 hfz53_6 hfz53_7 hfz53_8 hfz53_9
  obtain ⟨kq, x50_7, rfl, HA, HJ7, BK101, BK114, BK126, BK138, BK151, BK164, HB⟩ := hcut
  cases kq with
  | zero => exact absurd HA.out (by simp [drachmlaw04_WorthChains.j0])
  | succ kj7 =>
   have H := HA.out
   clear HA
   simp only [drachmlaw04_WorthChains.j0] at H
   by_cases c55 : x50_7 = true
   ·subst c55
    have H1 : (if t102 = true then (if t150 = 0 then (if t163 = 0 then (some true) else (some (t163 == 10))) else (if t150 = 10 then (if t163 = 0 then (some true) else (some (t163 == 10))) else (none))) else (none)) = some r := by rw [if_pos rfl] at H; exact H
    clear H
    have H := H1
    clear H1
    by_cases c56 : t102 = true
    ·subst c56
     have H1 : (if t150 = 0 then (if t163 = 0 then (some true) else (some (t163 == 10))) else (if t150 = 10 then (if t163 = 0 then (some true) else (some (t163 == 10))) else (none))) = some r := by rw [if_pos rfl] at H; exact H
     clear H
     have H := H1
     clear H1
     by_cases c57 : t150 = 0
     ·rw [if_pos c57] at H
      have c57b0 : (t150 == 0) = true := beq_iff_eq.mpr c57
      have c57b1 : (t150 != 0) = false := bne_eq_false_iff_eq.mpr c57
      clear c57
      by_cases c58 : t163 = 0
      ·rw [if_pos c58] at H
       have c58b0 : (t163 == 0) = true := beq_iff_eq.mpr c58
       have c58b1 : (t163 != 0) = false := bne_eq_false_iff_eq.mpr c58
       clear c58
       obtain rfl := Option.some.inj H
       go_wp2
       go_ret
       exact ⟨by first | rfl | (simp [errW_none, errW_some] <;> rfl) | (simp [*, errW_none, errW_some] <;> rfl), bl HB.out⟩
      ·rw [if_neg c58] at H
       have c58b0 : (t163 == 0) = false := beq_eq_false_iff_ne.mpr c58
       have c58b1 : (t163 != 0) = true := bne_iff_ne.mpr c58
       obtain rfl := Option.some.inj H
       go_wp2
       go_ret
       exact ⟨by first | rfl | (simp [errW_none, errW_some] <;> rfl) | (simp [*, errW_none, errW_some] <;> rfl), bl HB.out⟩
     ·rw [if_neg c57] at H
      have c57b0 : (t150 == 0) = false := beq_eq_false_iff_ne.mpr c57
      have c57b1 : (t150 != 0) = true := bne_iff_ne.mpr c57
      by_cases c59 : t150 = 10
      ·rw [if_pos c59] at H
       have c59b0 : (t150 == 10) = true := beq_iff_eq.mpr c59
       have c59b1 : (t150 != 10) = false := bne_eq_false_iff_eq.mpr c59
       clear c59
       by_cases c60 : t163 = 0
       ·rw [if_pos c60] at H
        have c60b0 : (t163 == 0) = true := beq_iff_eq.mpr c60
        have c60b1 : (t163 != 0) = false := bne_eq_false_iff_eq.mpr c60
        clear c60
        obtain rfl := Option.some.inj H
        go_wp2
        go_ret
        exact ⟨by first | rfl | (simp [errW_none, errW_some] <;> rfl) | (simp [*, errW_none, errW_some] <;> rfl), bl HB.out⟩
       ·rw [if_neg c60] at H
        have c60b0 : (t163 == 0) = false := beq_eq_false_iff_ne.mpr c60
        have c60b1 : (t163 != 0) = true := bne_iff_ne.mpr c60
        obtain rfl := Option.some.inj H
        go_wp2
        go_ret
        exact ⟨by first | rfl | (simp [errW_none, errW_some] <;> rfl) | (simp [*, errW_none, errW_some] <;> rfl), bl HB.out⟩
      ·rw [if_neg c59] at H
       exact absurd H (by simp)
    ·replace c56 := Bool.eq_false_iff.mpr c56
     subst c56
     have H1 : (none) = some r := by rw [if_neg (show ¬ (false = true) by decide)] at H; exact H
     clear H
     have H := H1
     clear H1
     exact absurd H (by simp)
   ·replace c55 := Bool.eq_false_iff.mpr c55
    subst c55
    have H1 : ((worth_Mul.f kj7 t139 t140 t141 t142 t143 t144 t145 t146 t147 t148 t149 t127 t128 t129 t130 t131 t132 t133 t134 t135 t136 t137).bind fun bt165 => ((worth_Mul.f kj7 t103 t104 t105 t106 t107 t108 t109 t110 t111 t112 t113 t152 t153 t154 t155 t156 t157 t158 t159 t160 t161 t162).bind fun bt178 => (if t102 = true then (if ((bt165.1 == bt178.1 && (bt165.2.1 == bt178.2.1 && (bt165.2.2.1 == bt178.2.2.1))) && ((bt165.2.2.2.1 == bt178.2.2.2.1 && (bt165.2.2.2.2.1 == bt178.2.2.2.2.1 && (bt165.2.2.2.2.2.1 == bt178.2.2.2.2.2.1 && (bt165.2.2.2.2.2.2.1 == bt178.2.2.2.2.2.2.1 && (bt165.2.2.2.2.2.2.2.1 == bt178.2.2.2.2.2.2.2.1 && (bt165.2.2.2.2.2.2.2.2.1 == bt178.2.2.2.2.2.2.2.2.1 && (bt165.2.2.2.2.2.2.2.2.2.1 == bt178.2.2.2.2.2.2.2.2.2.1))))))) && (bt165.2.2.2.2.2.2.2.2.2.2.1 == bt178.2.2.2.2.2.2.2.2.2.2.1))) = true then (some (bt165.2.2.2.2.2.2.2.2.2.2.2 == bt178.2.2.2.2.2.2.2.2.2.2.2)) else (none)) else (none)))) = some r := by rw [if_neg (show ¬ (false = true) by decide)] at H; exact H
    clear H
    have H := H1
    clear H1
    replace H := Option.bind_eq_some_iff.mp H
    obtain ⟨⟨t165, t166, t167, t168, t169, t170, t171, t172, t173, t174, t175, t176⟩, A610, H⟩ := H
    replace H : ((worth_Mul.f kj7 t103 t104 t105 t106 t107 t108 t109 t110 t111 t112 t113 t152 t153 t154 t155 t156 t157 t158 t159 t160 t161 t162).bind fun bt178 => (if t102 = true then (if ((t165 == bt178.1 && (t166 == bt178.2.1 && (t167 == bt178.2.2.1))) && ((t168 == bt178.2.2.2.1 && (t169 == bt178.2.2.2.2.1 && (t170 == bt178.2.2.2.2.2.1 && (t171 == bt178.2.2.2.2.2.2.1 && (t172 == bt178.2.2.2.2.2.2.2.1 && (t173 == bt178.2.2.2.2.2.2.2.2.1 && (t174 == bt178.2.2.2.2.2.2.2.2.2.1))))))) && (t175 == bt178.2.2.2.2.2.2.2.2.2.2.1))) = true then (some (t176 == bt178.2.2.2.2.2.2.2.2.2.2.2)) else (none)) else (none))) = some r := H
    have A61 := Aside0.mk A610
    clear A610
    replace H := Option.bind_eq_some_iff.mp H
    obtain ⟨⟨t178, t179, t180, t181, t182, t183, t184, t185, t186, t187, t188, t189⟩, A620, H⟩ := H
    replace H : (if t102 = true then (if ((t165 == t178 && (t166 == t179 && (t167 == t180))) && ((t168 == t181 && (t169 == t182 && (t170 == t183 && (t171 == t184 && (t172 == t185 && (t173 == t186 && (t174 == t187))))))) && (t175 == t188))) = true then (some (t176 == t189)) else (none)) else (none)) = some r := H
    have A62 := Aside0.mk A620
    clear A620
    by_cases c63 : t102 = true
    ·subst c63
     have H1 : (if ((t165 == t178 && (t166 == t179 && (t167 == t180))) && ((t168 == t181 && (t169 == t182 && (t170 == t183 && (t171 == t184 && (t172 == t185 && (t173 == t186 && (t174 == t187))))))) && (t175 == t188))) = true then (some (t176 == t189)) else (none)) = some r := by rw [if_pos rfl] at H; exact H
     clear H
     have H := H1
     clear H1
     by_cases c64 : ((t165 == t178 && (t166 == t179 && (t167 == t180))) && ((t168 == t181 && (t169 == t182 && (t170 == t183 && (t171 == t184 && (t172 == t185 && (t173 == t186 && (t174 == t187))))))) && (t175 == t188))) = true
     ·rw [if_pos c64] at H
      have c64b0 : ((t165 == t178 && (t166 == t179 && (t167 == t180))) && ((t168 == t181 && (t169 == t182 && (t170 == t183 && (t171 == t184 && (t172 == t185 && (t173 == t186 && (t174 == t187))))))) && (t175 == t188))) = true := c64
      clear c64
      obtain rfl := Option.some.inj H
      have hnb65 := NB151_101.out
      have hnc65 := NB101_151.out
      have hnb66 := NB151_114.out
      have hnc66 := NB114_151.out
      have hnb67 := NB151_126.out
      have hnc67 := NB126_151.out
      have hnb68 := NB151_138.out
      have hnc68 := NB138_151.out
      have hnb69 := NB151_164.out
      have hnc69 := NB164_151.out
      obtain ⟨hcz70_0, hcz70_1, hcz70_2, hcz70_3, hcz70_4, hcz70_5, hcz70_6, hcz70_7, hcz70_8, hcz70_9, hcz70_10⟩ := hc11 BK151.out
      obtain ⟨hfz70_0, hfz70_1, hfz70_2, hfz70_3, hfz70_4, hfz70_5, hfz70_6, hfz70_7, hfz70_8, hfz70_9, hfz70_10⟩ := hf11 BK151.out
      have hnb71 := NB138_101.out
      have hnc71 := NB101_138.out
      have hnb72 := NB138_114.out
      have hnc72 := NB114_138.out
      have hnb73 := NB138_126.out
      have hnc73 := NB126_138.out
      have hnb74 := NB138_164.out
      have hnc74 := NB164_138.out
      obtain ⟨hcz75_0, hcz75_1, hcz75_2, hcz75_3, hcz75_4, hcz75_5, hcz75_6, hcz75_7, hcz75_8, hcz75_9, hcz75_10⟩ := hc11 BK138.out
      obtain ⟨hfz75_0, hfz75_1, hfz75_2, hfz75_3, hfz75_4, hfz75_5, hfz75_6, hfz75_7, hfz75_8, hfz75_9, hfz75_10⟩ := hf11 BK138.out
      go_wp2_with (first | (go_at_call 13; (with_reducible refine (worth_Mul.calls kj7 t139 t140 t141 t142 t143 t144 t145 t146 t147 t148 t149 t127 t128 t129 t130 t131 t132 t133 t134 t135 t136 t137 t165 t166 t167 t168 t169 t170 t171 t172 t173 t174 t175 t176 _ (Glob.use hG (by decide) (bl HB.out)) A61.out).mono ?_); rintro e w76 ⟨rfl, hb⟩; replace BK101 := kb BK101 hb; replace BK114 := kb BK114 hb; replace BK126 := kb BK126 hb; replace BK138 := kb BK138 hb; replace BK151 := kb BK151 hb; replace BK164 := kb BK164 hb; replace HB := sb HB hb; (try clear hb); (try clear hb2); (try clear hk); (try clear hi)) | ((with_reducible refine gate_dst (N := 12) rfl ?_); refine box_event ?hg (N := 12) ?hd (cs := #[.int .i64 0, .int .i64 0, .int .i64 0, .int .i64 0, .int .i64 0, .int .i64 0, .int .i64 0, .int .i64 0, .int .i64 0, .int .i64 0, .int .i64 0]) (t := 31) ?hr ?_; (case hd => rfl); (case hg => rfl); (case hr => first | (go_simp; done) | (go_simp; rfl)); intro gb177 hg w77 hbox hb; have n0_ := kb BK101 hb; have n1_ := kb BK114 hb; have n2_ := kb BK126 hb; have n3_ := kb BK138 hb; have n4_ := kb BK151 hb; have n5_ := kb BK164 hb; have n6_ := sb HB hb; have n7_ := Aside0.mk (hbox); have n8_ := Aside0.mk ((by rw [hg]; exact (below_size (bl HB.out)) : w.heap.size ≤ gb177)); have n9_ := Aside0.mk ((by rw [hg]; exact (below_size (bl HB.out)) : w.heap.size ≤ gb177)); have n10_ := Aside0.mk ((by rw [hg]; exact Nat.ne_of_lt (blk_lt (kp BK101.out)) : gb101 ≠ gb177)); have n11_ := Aside0.mk ((by rw [hg]; exact Nat.ne_of_gt (blk_lt (kp BK101.out)) : gb177 ≠ gb101)); have n12_ := Aside0.mk ((by rw [hg]; exact Nat.ne_of_lt (blk_lt (kp BK114.out)) : gb114 ≠ gb177)); have n13_ := Aside0.mk ((by rw [hg]; exact Nat.ne_of_gt (blk_lt (kp BK114.out)) : gb177 ≠ gb114)); have n14_ := Aside0.mk ((by rw [hg]; exact Nat.ne_of_lt (blk_lt (kp BK126.out)) : gb126 ≠ gb177)); have n15_ := Aside0.mk ((by rw [hg]; exact Nat.ne_of_gt (blk_lt (kp BK126.out)) : gb177 ≠ gb126)); have n16_ := Aside0.mk ((by rw [hg]; exact Nat.ne_of_lt (blk_lt (kp BK138.out)) : gb138 ≠ gb177)); have n17_ := Aside0.mk ((by rw [hg]; exact Nat.ne_of_gt (blk_lt (kp BK138.out)) : gb177 ≠ gb138)); have n18_ := Aside0.mk ((by rw [hg]; exact Nat.ne_of_lt (blk_lt (kp BK151.out)) : gb151 ≠ gb177)); have n19_ := Aside0.mk ((by rw [hg]; exact Nat.ne_of_gt (blk_lt (kp BK151.out)) : gb177 ≠ gb151)); have n20_ := Aside0.mk ((by rw [hg]; exact Nat.ne_of_lt (blk_lt (kp BK164.out)) : gb164 ≠ gb177)); have n21_ := Aside0.mk ((by rw [hg]; exact Nat.ne_of_gt (blk_lt (kp BK164.out)) : gb177 ≠ gb164)); clear BK101; clear BK114; clear BK126; clear BK138; clear BK151; clear BK164; clear HB; have BK101 := n0_; have BK114 := n1_; have BK126 := n2_; have BK138 := n3_; have BK151 := n4_; have BK164 := n5_; have HB := n6_; have BK177 := n7_; have GW177 := n8_; have GE177 := n9_; have NB101_177 := n10_; have NB177_101 := n11_; have NB114_177 := n12_; have NB177_114 := n13_; have NB126_177 := n14_; have NB177_126 := n15_; have NB138_177 := n16_; have NB177_138 := n17_; have NB151_177 := n18_; have NB177_151 := n19_; have NB164_177 := n20_; have NB177_164 := n21_; clear n0_ n1_ n2_ n3_ n4_ n5_ n6_ n7_ n8_ n9_ n10_ n11_ n12_ n13_ n14_ n15_ n16_ n17_ n18_ n19_ n20_ n21_; clear hb hbox hg; have hnb78 := NB177_101.out; have hnc78 := NB101_177.out; have hnb79 := NB177_114.out; have hnc79 := NB114_177.out; have hnb80 := NB177_126.out; have hnc80 := NB126_177.out; have hnb81 := NB177_138.out; have hnc81 := NB138_177.out; have hnb82 := NB177_151.out; have hnc82 := NB151_177.out; have hnb83 := NB177_164.out; have hnc83 := NB164_177.out; obtain ⟨hcz84_0, hcz84_1, hcz84_2, hcz84_3, hcz84_4, hcz84_5, hcz84_6, hcz84_7, hcz84_8, hcz84_9, hcz84_10⟩ := hc11 BK177.out; obtain ⟨hfz84_0, hfz84_1, hfz84_2, hfz84_3, hfz84_4, hfz84_5, hfz84_6, hfz84_7, hfz84_8, hfz84_9, hfz84_10⟩ := hf11 BK177.out; have hnb85 := NB114_101.out; have hnc85 := NB101_114.out; have hnb86 := NB114_126.out; have hnc86 := NB126_114.out; have hnb87 := NB114_164.out; have hnc87 := NB164_114.out; obtain ⟨hcz88_0, hcz88_1, hcz88_2, hcz88_3, hcz88_4, hcz88_5, hcz88_6, hcz88_7, hcz88_8, hcz88_9, hcz88_10⟩ := hc11 BK114.out; obtain ⟨hfz88_0, hfz88_1, hfz88_2, hfz88_3, hfz88_4, hfz88_5, hfz88_6, hfz88_7, hfz88_8, hfz88_9, hfz88_10⟩ := hf11 BK114.out; have hnb89 := NB164_101.out; have hnc89 := NB101_164.out; have hnb90 := NB164_126.out; have hnc90 := NB126_164.out; obtain ⟨hcz91_0, hcz91_1, hcz91_2, hcz91_3, hcz91_4, hcz91_5, hcz91_6, hcz91_7, hcz91_8, hcz91_9, hcz91_10⟩ := hc11 BK164.out; obtain ⟨hfz91_0, hfz91_1, hfz91_2, hfz91_3, hfz91_4, hfz91_5, hfz91_6, hfz91_7, hfz91_8, hfz91_9, hfz91_10⟩ := hf11 BK164.out) | (go_at_call 13; (with_reducible refine (worth_Mul.calls kj7 t103 t104 t105 t106 t107 t108 t109 t110 t111 t112 t113 t152 t153 t154 t155 t156 t157 t158 t159 t160 t161 t162 t178 t179 t180 t181 t182 t183 t184 t185 t186 t187 t188 t189 _ (Glob.use hG (by decide) (bl HB.out)) A62.out).mono ?_); rintro e w92 ⟨rfl, hb⟩; replace BK101 := kb BK101 hb; replace BK114 := kb BK114 hb; replace BK126 := kb BK126 hb; replace BK138 := kb BK138 hb; replace BK151 := kb BK151 hb; replace BK164 := kb BK164 hb; replace BK177 := Aside0.mk (blk_below (kp (p11_10 (kp (p11_9 (kp (p11_8 (kp (p11_7 (kp (p11_6 (kp (p11_5 (kp (p11_4 (kp (p11_3 (kp (p11_2 (kp (p11_1 (kp (p11_0 (kp BK177.out))))))))))))))))))))))) hb); replace HB := sb HB hb; (try clear hb); (try clear hb2); (try clear hk); (try clear hi)) | ((with_reducible refine gate_dst (N := 14) rfl ?_); refine box_event ?hg (N := 14) ?hd (cs := #[.int .i64 0, .int .i64 0, .int .i64 0, .int .i64 0, .int .i64 0, .int .i64 0, .int .i64 0, .int .i64 0, .int .i64 0, .int .i64 0, .int .i64 0]) (t := 31) ?hr ?_; (case hd => rfl); (case hg => rfl); (case hr => first | (go_simp; done) | (go_simp; rfl)); intro gb190 hg w93 hbox hb; have n0_ := kb BK101 hb; have n1_ := kb BK114 hb; have n2_ := kb BK126 hb; have n3_ := kb BK138 hb; have n4_ := kb BK151 hb; have n5_ := kb BK164 hb; have n6_ := kb BK177 hb; have n7_ := sb HB hb; have n8_ := Aside0.mk (hbox); have n9_ := Aside0.mk ((by rw [hg]; exact (below_size (bl HB.out)) : w.heap.size ≤ gb190)); have n10_ := Aside0.mk ((by rw [hg]; exact (below_size (bl HB.out)) : w.heap.size ≤ gb190)); have n11_ := Aside0.mk ((by rw [hg]; exact Nat.ne_of_lt (blk_lt (kp BK101.out)) : gb101 ≠ gb190)); have n12_ := Aside0.mk ((by rw [hg]; exact Nat.ne_of_gt (blk_lt (kp BK101.out)) : gb190 ≠ gb101)); have n13_ := Aside0.mk ((by rw [hg]; exact Nat.ne_of_lt (blk_lt (kp BK114.out)) : gb114 ≠ gb190)); have n14_ := Aside0.mk ((by rw [hg]; exact Nat.ne_of_gt (blk_lt (kp BK114.out)) : gb190 ≠ gb114)); have n15_ := Aside0.mk ((by rw [hg]; exact Nat.ne_of_lt (blk_lt (kp BK126.out)) : gb126 ≠ gb190)); have n16_ := Aside0.mk ((by rw [hg]; exact Nat.ne_of_gt (blk_lt (kp BK126.out)) : gb190 ≠ gb126)); have n17_ := Aside0.mk ((by rw [hg]; exact Nat.ne_of_lt (blk_lt (kp BK138.out)) : gb138 ≠ gb190)); have n18_ := Aside0.mk ((by rw [hg]; exact Nat.ne_of_gt (blk_lt (kp BK138.out)) : gb190 ≠ gb138)); have n19_ := Aside0.mk ((by rw [hg]; exact Nat.ne_of_lt (blk_lt (kp BK151.out)) : gb151 ≠ gb190)); have n20_ := Aside0.mk ((by rw [hg]; exact Nat.ne_of_gt (blk_lt (kp BK151.out)) : gb190 ≠ gb151)); have n21_ := Aside0.mk ((by rw [hg]; exact Nat.ne_of_lt (blk_lt (kp BK164.out)) : gb164 ≠ gb190)); have n22_ := Aside0.mk ((by rw [hg]; exact Nat.ne_of_gt (blk_lt (kp BK164.out)) : gb190 ≠ gb164)); have n23_ := Aside0.mk ((by rw [hg]; exact Nat.ne_of_lt (blk_lt (kp BK177.out)) : gb177 ≠ gb190)); have n24_ := Aside0.mk ((by rw [hg]; exact Nat.ne_of_gt (blk_lt (kp BK177.out)) : gb190 ≠ gb177)); clear BK101; clear BK114; clear BK126; clear BK138; clear BK151; clear BK164; clear BK177; clear HB; have BK101 := n0_; have BK114 := n1_; have BK126 := n2_; have BK138 := n3_; have BK151 := n4_; have BK164 := n5_; have BK177 := n6_; have HB := n7_; have BK190 := n8_; have GW190 := n9_; have GE190 := n10_; have NB101_190 := n11_; have NB190_101 := n12_; have NB114_190 := n13_; have NB190_114 := n14_; have NB126_190 := n15_; have NB190_126 := n16_; have NB138_190 := n17_; have NB190_138 := n18_; have NB151_190 := n19_; have NB190_151 := n20_; have NB164_190 := n21_; have NB190_164 := n22_; have NB177_190 := n23_; have NB190_177 := n24_; clear n0_ n1_ n2_ n3_ n4_ n5_ n6_ n7_ n8_ n9_ n10_ n11_ n12_ n13_ n14_ n15_ n16_ n17_ n18_ n19_ n20_ n21_ n22_ n23_ n24_; clear hb hbox hg; have hnb94 := NB190_101.out; have hnc94 := NB101_190.out; have hnb95 := NB190_114.out; have hnc95 := NB114_190.out; have hnb96 := NB190_126.out; have hnc96 := NB126_190.out; have hnb97 := NB190_138.out; have hnc97 := NB138_190.out; have hnb98 := NB190_151.out; have hnc98 := NB151_190.out; have hnb99 := NB190_164.out; have hnc99 := NB164_190.out; have hnb100 := NB190_177.out; have hnc100 := NB177_190.out; obtain ⟨hcz101_0, hcz101_1, hcz101_2, hcz101_3, hcz101_4, hcz101_5, hcz101_6, hcz101_7, hcz101_8, hcz101_9, hcz101_10⟩ := hc11 BK190.out; obtain ⟨hfz101_0, hfz101_1, hfz101_2, hfz101_3, hfz101_4, hfz101_5, hfz101_6, hfz101_7, hfz101_8, hfz101_9, hfz101_10⟩ := hf11 BK190.out; obtain ⟨hcz102_0, hcz102_1, hcz102_2, hcz102_3, hcz102_4, hcz102_5, hcz102_6, hcz102_7, hcz102_8, hcz102_9, hcz102_10⟩ := hc11 BK177.out; obtain ⟨hfz102_0, hfz102_1, hfz102_2, hfz102_3, hfz102_4, hfz102_5, hfz102_6, hfz102_7, hfz102_8, hfz102_9, hfz102_10⟩ := hf11 BK177.out))
      go_ret
      exact ⟨by first | rfl | (simp [errW_none, errW_some] <;> rfl) | (simp [*, errW_none, errW_some] <;> rfl), bl HB.out⟩
     ·rw [if_neg c64] at H
      exact absurd H (by simp)
    ·replace c63 := Bool.eq_false_iff.mpr c63
     subst c63
     have H1 : (none) = some r := by rw [if_neg (show ¬ (false = true) by decide)] at H; exact H
     clear H
     have H := H1
     clear H1
     exact absurd H (by simp)

/-- THE ONE PURE STATEMENT of drachmlaw04_WorthChains: yours. -/
def drachmlaw04_WorthChains.Pure : Prop := ∀ (a0_0 : Int) (a0_1 : Int) (a0_2 : Int) (a0_3 : Int) (a0_4 : Int) (a0_5 : Int) (a0_6 : Int) (a0_7 : Int) (a0_8 : Int) (a0_9 : Int) (a0_10 : Int) (a0_11 : Int) (a0_12 : Int) (a0_13 : Int) (a0_14 : Int) (a0_15 : Int) (a0_16 : Int) (a0_17 : Int) (a0_18 : Int) (a0_19 : Int) (a0_20 : Int) (a0_21 : Int) (a0_22 : Int) (a0_23 : Int) (a0_24 : Int) (a0_25 : Int) (a0_26 : Int) (a0_27 : Int) (a0_28 : Int) (a0_29 : Int) (a0_30 : Int) (a0_31 : Int) (a0_32 : Int), (Lit.int .i64 a0_0).wf = true → (Lit.int .i64 a0_1).wf = true → (Lit.int .i64 a0_2).wf = true → (Lit.int .i64 a0_3).wf = true → (Lit.int .i64 a0_4).wf = true → (Lit.int .i64 a0_5).wf = true → (Lit.int .i64 a0_6).wf = true → (Lit.int .i64 a0_7).wf = true → (Lit.int .i64 a0_8).wf = true → (Lit.int .i64 a0_9).wf = true → (Lit.int .i64 a0_10).wf = true → (Lit.int .i64 a0_11).wf = true → (Lit.int .i64 a0_12).wf = true → (Lit.int .i64 a0_13).wf = true → (Lit.int .i64 a0_14).wf = true → (Lit.int .i64 a0_15).wf = true → (Lit.int .i64 a0_16).wf = true → (Lit.int .i64 a0_17).wf = true → (Lit.int .i64 a0_18).wf = true → (Lit.int .i64 a0_19).wf = true → (Lit.int .i64 a0_20).wf = true → (Lit.int .i64 a0_21).wf = true → (Lit.int .i64 a0_22).wf = true → (Lit.int .i64 a0_23).wf = true → (Lit.int .i64 a0_24).wf = true → (Lit.int .i64 a0_25).wf = true → (Lit.int .i64 a0_26).wf = true → (Lit.int .i64 a0_27).wf = true → (Lit.int .i64 a0_28).wf = true → (Lit.int .i64 a0_29).wf = true → (Lit.int .i64 a0_30).wf = true → (Lit.int .i64 a0_31).wf = true → (Lit.int .i64 a0_32).wf = true → ∃ k, drachmlaw04_WorthChains.f k a0_0 a0_1 a0_2 a0_3 a0_4 a0_5 a0_6 a0_7 a0_8 a0_9 a0_10 a0_11 a0_12 a0_13 a0_14 a0_15 a0_16 a0_17 a0_18 a0_19 a0_20 a0_21 a0_22 a0_23 a0_24 a0_25 a0_26 a0_27 a0_28 a0_29 a0_30 a0_31 a0_32 = some true
theorem drachmlaw04_WorthChains.walk (P : drachmlaw04_WorthChains.Pure) (a0_0 : Int) (a0_1 : Int) (a0_2 : Int) (a0_3 : Int) (a0_4 : Int) (a0_5 : Int) (a0_6 : Int) (a0_7 : Int) (a0_8 : Int) (a0_9 : Int) (a0_10 : Int) (a0_11 : Int) (a0_12 : Int) (a0_13 : Int) (a0_14 : Int) (a0_15 : Int) (a0_16 : Int) (a0_17 : Int) (a0_18 : Int) (a0_19 : Int) (a0_20 : Int) (a0_21 : Int) (a0_22 : Int) (a0_23 : Int) (a0_24 : Int) (a0_25 : Int) (a0_26 : Int) (a0_27 : Int) (a0_28 : Int) (a0_29 : Int) (a0_30 : Int) (a0_31 : Int) (a0_32 : Int) (w : World) (hG : Glob [1, 2] w) (w0_0 : (Lit.int .i64 a0_0).wf = true) (w0_1 : (Lit.int .i64 a0_1).wf = true) (w0_2 : (Lit.int .i64 a0_2).wf = true) (w0_3 : (Lit.int .i64 a0_3).wf = true) (w0_4 : (Lit.int .i64 a0_4).wf = true) (w0_5 : (Lit.int .i64 a0_5).wf = true) (w0_6 : (Lit.int .i64 a0_6).wf = true) (w0_7 : (Lit.int .i64 a0_7).wf = true) (w0_8 : (Lit.int .i64 a0_8).wf = true) (w0_9 : (Lit.int .i64 a0_9).wf = true) (w0_10 : (Lit.int .i64 a0_10).wf = true) (w0_11 : (Lit.int .i64 a0_11).wf = true) (w0_12 : (Lit.int .i64 a0_12).wf = true) (w0_13 : (Lit.int .i64 a0_13).wf = true) (w0_14 : (Lit.int .i64 a0_14).wf = true) (w0_15 : (Lit.int .i64 a0_15).wf = true) (w0_16 : (Lit.int .i64 a0_16).wf = true) (w0_17 : (Lit.int .i64 a0_17).wf = true) (w0_18 : (Lit.int .i64 a0_18).wf = true) (w0_19 : (Lit.int .i64 a0_19).wf = true) (w0_20 : (Lit.int .i64 a0_20).wf = true) (w0_21 : (Lit.int .i64 a0_21).wf = true) (w0_22 : (Lit.int .i64 a0_22).wf = true) (w0_23 : (Lit.int .i64 a0_23).wf = true) (w0_24 : (Lit.int .i64 a0_24).wf = true) (w0_25 : (Lit.int .i64 a0_25).wf = true) (w0_26 : (Lit.int .i64 a0_26).wf = true) (w0_27 : (Lit.int .i64 a0_27).wf = true) (w0_28 : (Lit.int .i64 a0_28).wf = true) (w0_29 : (Lit.int .i64 a0_29).wf = true) (w0_30 : (Lit.int .i64 a0_30).wf = true) (w0_31 : (Lit.int .i64 a0_31).wf = true) (w0_32 : (Lit.int .i64 a0_32).wf = true) :
  Calls Tryd.prog 4 #[.agg #[.int .i64 a0_0, .int .i64 a0_1, .int .i64 a0_2, .int .i64 a0_3, .int .i64 a0_4, .int .i64 a0_5, .int .i64 a0_6, .int .i64 a0_7, .int .i64 a0_8, .int .i64 a0_9, .int .i64 a0_10, .int .i64 a0_11, .int .i64 a0_12, .int .i64 a0_13, .int .i64 a0_14, .int .i64 a0_15, .int .i64 a0_16, .int .i64 a0_17, .int .i64 a0_18, .int .i64 a0_19, .int .i64 a0_20, .int .i64 a0_21, .int .i64 a0_22, .int .i64 a0_23, .int .i64 a0_24, .int .i64 a0_25, .int .i64 a0_26, .int .i64 a0_27, .int .i64 a0_28, .int .i64 a0_29, .int .i64 a0_30, .int .i64 a0_31, .int .i64 a0_32]] w fun e w' => e = .returned (.bool true) ∧ Below w.heap.size w w' := by
 obtain ⟨k, h⟩ := P a0_0 a0_1 a0_2 a0_3 a0_4 a0_5 a0_6 a0_7 a0_8 a0_9 a0_10 a0_11 a0_12 a0_13 a0_14 a0_15 a0_16 a0_17 a0_18 a0_19 a0_20 a0_21 a0_22 a0_23 a0_24 a0_25 a0_26 a0_27 a0_28 a0_29 a0_30 a0_31 a0_32 w0_0 w0_1 w0_2 w0_3 w0_4 w0_5 w0_6 w0_7 w0_8 w0_9 w0_10 w0_11 w0_12 w0_13 w0_14 w0_15 w0_16 w0_17 w0_18 w0_19 w0_20 w0_21 w0_22 w0_23 w0_24 w0_25 w0_26 w0_27 w0_28 w0_29 w0_30 w0_31 w0_32
 refine (drachmlaw04_WorthChains.calls k a0_0 a0_1 a0_2 a0_3 a0_4 a0_5 a0_6 a0_7 a0_8 a0_9 a0_10 a0_11 a0_12 a0_13 a0_14 a0_15 a0_16 a0_17 a0_18 a0_19 a0_20 a0_21 a0_22 a0_23 a0_24 a0_25 a0_26 a0_27 a0_28 a0_29 a0_30 a0_31 a0_32 true w hG h).mono ?_
 rintro e w' ⟨rfl, hd⟩
 exact ⟨rfl, hd⟩

end Go.Proofs.YthfibffgmoblaaaDoor.PWorthChains

