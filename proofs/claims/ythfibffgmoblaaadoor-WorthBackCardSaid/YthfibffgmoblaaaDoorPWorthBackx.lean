/- Printed by a program of this session (wip/tools/prt.py) out of the translation: plain functions, and that the calls come to just them. No conditions beyond those that stand in each theorem. -/
import Derived.Test.YthfibffgmoblaaaDoorWw
import Derived.Test.YthfibffgmoblaaaDoorSq
import Derived.Test.YthfibffgmoblaaaDoorProg
import Derived.Below
import Derived.Deep.Draws
import Derived.Deep.AppendLies
import Derived.Maps.AppendAt
import Derived.OwnWalk
import Derived.Laws.BytesArg
import Derived.Laws.MakeOwn
import Derived.Laws.OwnMore
import Derived.Deep.OwnRows
import Derived.Tactics
import Derived.Lib.ConvBytes
import Derived.Laws.Slices
import Derived.WalkKit
import Derived.KernelRfl
import Derived.RowKit3
import Derived.Deep.LoopGhost
import Derived.Deep.QuietTactic
import Derived.BigQuiet
import Derived.WideLaws
import Derived.Deep.DeepCutAuto
import Derived.Deep.CutBlock
import Derived.Deep.RegionHeld3
import Derived.Laws.Rows
import Derived.Lib.AppendStr
import Derived.ArgAppend
import Derived.Laws.IdiomCopy
import Derived.OrdersHeld
import Derived.Laws.BitsLemmas
import Derived.RowKit
import Derived.Test.YthfibffgmoblaaaDoorGlob
import Derived.Test.YthfibffgmoblaaaDoorYm
import Derived.Test.YthfibffgmoblaaaDoorYd
import Derived.Test.YthfibffgmoblaaaDoorPBx
import Derived.Test.YthfibffgmoblaaaDoorPCx
import Derived.Test.YthfibffgmoblaaaDoorPDx
import Derived.Test.YthfibffgmoblaaaDoorPOx
import Derived.Test.YthfibffgmoblaaaDoorPRx
import Derived.Test.YthfibffgmoblaaaDoorPSx
import Derived.Test.YthfibffgmoblaaaDoorPTx
import Derived.Test.YthfibffgmoblaaaDoorPXx
import Derived.Test.YthfibffgmoblaaaDoorPQx
namespace Go.Proofs.YthfibffgmoblaaaDoor.PWorthBack
open Go.Proofs.YthfibffgmoblaaaDoor.Sq Go.RowKit Go.Proofs.YthfibffgmoblaaaDoorW.PrintWords Go.Proofs.YthfibffgmoblaaaDoorW.PrintLast Go.Proofs.YthfibffgmoblaaaDoorW.PrintMore Go.Proofs.YthfibffgmoblaaaDoor.PB Go.Proofs.YthfibffgmoblaaaDoor.PC Go.Proofs.YthfibffgmoblaaaDoor.PD Go.Proofs.YthfibffgmoblaaaDoor.PO Go.Proofs.YthfibffgmoblaaaDoor.PR Go.Proofs.YthfibffgmoblaaaDoor.PS Go.Proofs.YthfibffgmoblaaaDoor.PT Go.Proofs.YthfibffgmoblaaaDoor.PX Go.Proofs.YthfibffgmoblaaaDoor.PQ
attribute [local go_sem] max2_int min2_int max_two min_two max_three min_three max_four min_four   -- for this text's walks alone
set_option linter.unusedVariables false
set_option linter.unusedSimpArgs false

theorem arr_cell {w : World} {g : Nat} {e : Int → Value} (o z : Nat) (l : List Int) (j : Int) (h : ∀ i, i < l.length → w.cell? ⟨g, o + i * z, none⟩ = some (e (l.getD i 0))) (h0 : 0 ≤ j) (hj : j < (l.length : Int)) : w.cell? ⟨g, o + j.toNat * z, none⟩ = some (e (rd l j)) := h j.toNat (by omega)
theorem arr_cell1 {w : World} {g : Nat} {e : Int → Value} (l : List Int) (j : Int) (h : ∀ i, i < l.length → w.cell? ⟨g, i, none⟩ = some (e (l.getD i 0))) (h0 : 0 ≤ j) (hj : j < (l.length : Int)) : w.cell? ⟨g, j.toNat, none⟩ = some (e (rd l j)) := h j.toNat (by omega)
theorem arr_cell2 {w : World} {g : Nat} {e : Int → Value} (z : Nat) (l : List Int) (j : Int) (h : ∀ i, i < l.length → w.cell? ⟨g, i * z, none⟩ = some (e (l.getD i 0))) (h0 : 0 ≤ j) (hj : j < (l.length : Int)) : w.cell? ⟨g, j.toNat * z, none⟩ = some (e (rd l j)) := h j.toNat (by omega)


def errW : Option Int → Value
 | none => .nilIface
 | some c => .iface 0 (.int .i64 c)
theorem errW_none : errW none = .nilIface := rfl
theorem errW_some (c : Int) : errW (some c) = .iface 0 (.int .i64 c) := rfl

-- the values' own types

end Go.Proofs.YthfibffgmoblaaaDoor.PWorthBack

namespace Go.Proofs.YthfibffgmoblaaaDoor.PWorthBack
open Go.Proofs.YthfibffgmoblaaaDoor.Sq Go.RowKit Go.Proofs.YthfibffgmoblaaaDoorW.PrintWords Go.Proofs.YthfibffgmoblaaaDoorW.PrintLast Go.Proofs.YthfibffgmoblaaaDoorW.PrintMore Go.Proofs.YthfibffgmoblaaaDoor.PB Go.Proofs.YthfibffgmoblaaaDoor.PC Go.Proofs.YthfibffgmoblaaaDoor.PD Go.Proofs.YthfibffgmoblaaaDoor.PO Go.Proofs.YthfibffgmoblaaaDoor.PR Go.Proofs.YthfibffgmoblaaaDoor.PS Go.Proofs.YthfibffgmoblaaaDoor.PT Go.Proofs.YthfibffgmoblaaaDoor.PX Go.Proofs.YthfibffgmoblaaaDoor.PQ
attribute [local go_sem] max2_int min2_int max_two min_two max_three min_three max_four min_four   -- for this text's walks alone
set_option linter.unusedVariables false
set_option linter.unusedSimpArgs false

theorem eqA23 (d : Nat) (w : World) (x0 y0 : Int) (x1 y1 : Int) (x2 y2 : Int) (x3 y3 : Int) (x4 y4 : Int) (x5 y5 : Int) (x6 y6 : Int) :
  (Op.equalIn (d + 2) 23 (.agg #[.int .i64 x0, .int .i64 x1, .int .i64 x2, .int .i64 x3, .int .i64 x4, .int .i64 x5, .int .i64 x6]) (.agg #[.int .i64 y0, .int .i64 y1, .int .i64 y2, .int .i64 y3, .int .i64 y4, .int .i64 y5, .int .i64 y6])).run Tryd.prog w = .ok (x0 == y0 && (x1 == y1 && (x2 == y2 && (x3 == y3 && (x4 == y4 && (x5 == y5 && (x6 == y6))))))) w := eqA7 d w x0 y0 x1 y1 x2 y2 x3 y3 x4 y4 x5 y5 x6 y6
end Go.Proofs.YthfibffgmoblaaaDoor.PWorthBack

namespace Go.Proofs.YthfibffgmoblaaaDoor.PWorthBack
open Go.Proofs.YthfibffgmoblaaaDoor.Sq Go.RowKit Go.Proofs.YthfibffgmoblaaaDoorW.PrintWords Go.Proofs.YthfibffgmoblaaaDoorW.PrintLast Go.Proofs.YthfibffgmoblaaaDoorW.PrintMore Go.Proofs.YthfibffgmoblaaaDoor.PB Go.Proofs.YthfibffgmoblaaaDoor.PC Go.Proofs.YthfibffgmoblaaaDoor.PD Go.Proofs.YthfibffgmoblaaaDoor.PO Go.Proofs.YthfibffgmoblaaaDoor.PR Go.Proofs.YthfibffgmoblaaaDoor.PS Go.Proofs.YthfibffgmoblaaaDoor.PT Go.Proofs.YthfibffgmoblaaaDoor.PX Go.Proofs.YthfibffgmoblaaaDoor.PQ
attribute [local go_sem] max2_int min2_int max_two min_two max_three min_three max_four min_four   -- for this text's walks alone
set_option linter.unusedVariables false
set_option linter.unusedSimpArgs false

theorem eqA29 (d : Nat) (w : World) (x0 y0 : Int) (x1 y1 : Int) (x2 y2 : Int) :
  (Op.equalIn (d + 2) 29 (.agg #[.int .i64 x0, .int .i64 x1, .int .i64 x2]) (.agg #[.int .i64 y0, .int .i64 y1, .int .i64 y2])).run Tryd.prog w = .ok (x0 == y0 && (x1 == y1 && (x2 == y2))) w := by
 refine eqA_of Tryd.underlying29 (by kernel_rfl) ?_
 refine eqf_cons (by rfl) (by go_simp; rfl) (by go_simp; rfl) (by go_simp) ?_
 refine eqf_cons (by rfl) (by go_simp; rfl) (by go_simp; rfl) (by go_simp) ?_
 exact eqf_last (by rfl) (by go_simp; rfl) (by go_simp; rfl) (by go_simp)
end Go.Proofs.YthfibffgmoblaaaDoor.PWorthBack

namespace Go.Proofs.YthfibffgmoblaaaDoor.PWorthBack
open Go.Proofs.YthfibffgmoblaaaDoor.Sq Go.RowKit Go.Proofs.YthfibffgmoblaaaDoorW.PrintWords Go.Proofs.YthfibffgmoblaaaDoorW.PrintLast Go.Proofs.YthfibffgmoblaaaDoorW.PrintMore Go.Proofs.YthfibffgmoblaaaDoor.PB Go.Proofs.YthfibffgmoblaaaDoor.PC Go.Proofs.YthfibffgmoblaaaDoor.PD Go.Proofs.YthfibffgmoblaaaDoor.PO Go.Proofs.YthfibffgmoblaaaDoor.PR Go.Proofs.YthfibffgmoblaaaDoor.PS Go.Proofs.YthfibffgmoblaaaDoor.PT Go.Proofs.YthfibffgmoblaaaDoor.PX Go.Proofs.YthfibffgmoblaaaDoor.PQ
attribute [local go_sem] max2_int min2_int max_two min_two max_three min_three max_four min_four   -- for this text's walks alone
set_option linter.unusedVariables false
set_option linter.unusedSimpArgs false

theorem eqA31 (d : Nat) (w : World) (x0 y0 : Int) (x1 y1 : Int) (x2 y2 : Int) (x3 y3 : Int) (x4 y4 : Int) (x5 y5 : Int) (x6 y6 : Int) (x7 y7 : Int) (x8 y8 : Int) (x9 y9 : Int) (x10 y10 : Int) :
  (Op.equalIn (d + 3) 31 (.agg #[.int .i64 x0, .int .i64 x1, .int .i64 x2, .int .i64 x3, .int .i64 x4, .int .i64 x5, .int .i64 x6, .int .i64 x7, .int .i64 x8, .int .i64 x9, .int .i64 x10]) (.agg #[.int .i64 y0, .int .i64 y1, .int .i64 y2, .int .i64 y3, .int .i64 y4, .int .i64 y5, .int .i64 y6, .int .i64 y7, .int .i64 y8, .int .i64 y9, .int .i64 y10])).run Tryd.prog w = .ok ((x0 == y0 && (x1 == y1 && (x2 == y2))) && ((x3 == y3 && (x4 == y4 && (x5 == y5 && (x6 == y6 && (x7 == y7 && (x8 == y8 && (x9 == y9))))))) && (x10 == y10))) w := by
 refine eqA_of Tryd.underlying31 (by kernel_rfl) ?_
 refine eqf_cons (by rfl) (by go_simp) (by go_simp) (eqA29 (d + 0) w _ _ _ _ _ _) ?_
 refine eqf_cons (by rfl) (by go_simp) (by go_simp) (eqA23 (d + 0) w _ _ _ _ _ _ _ _ _ _ _ _ _ _) ?_
 exact eqf_last (by rfl) (by go_simp; rfl) (by go_simp; rfl) (by go_simp)
end Go.Proofs.YthfibffgmoblaaaDoor.PWorthBack

namespace Go.Proofs.YthfibffgmoblaaaDoor.PWorthBack
open Go.Proofs.YthfibffgmoblaaaDoor.Sq Go.RowKit Go.Proofs.YthfibffgmoblaaaDoorW.PrintWords Go.Proofs.YthfibffgmoblaaaDoorW.PrintLast Go.Proofs.YthfibffgmoblaaaDoorW.PrintMore Go.Proofs.YthfibffgmoblaaaDoor.PB Go.Proofs.YthfibffgmoblaaaDoor.PC Go.Proofs.YthfibffgmoblaaaDoor.PD Go.Proofs.YthfibffgmoblaaaDoor.PO Go.Proofs.YthfibffgmoblaaaDoor.PR Go.Proofs.YthfibffgmoblaaaDoor.PS Go.Proofs.YthfibffgmoblaaaDoor.PT Go.Proofs.YthfibffgmoblaaaDoor.PX Go.Proofs.YthfibffgmoblaaaDoor.PQ
attribute [local go_sem] max2_int min2_int max_two min_two max_three min_three max_four min_four   -- for this text's walks alone
set_option linter.unusedVariables false
set_option linter.unusedSimpArgs false

attribute [local go_sem high] eqA23 eqA29 eqA31
/-! ### drachmlaw04_WorthBack: function 5 -/
mutual
def drachmlaw04_WorthBack.j0 : Nat → Bool → Int → Int → Bool → Int → Int → Int → Int → Int → Int → Int → Int → Int → Int → Int → Int → Int → Int → Int → Int → Int → Int → Int → Int → Int → Int → Int → Int → Int → Int → Int → Int → Int → Int → Int → Int → Int → Int → Int → Int → Int → Int → Int → Int → Int → Int → Int → Int → Option (Bool)
 | 0, _, _, _, _, _, _, _, _, _, _, _, _, _, _, _, _, _, _, _, _, _, _, _, _, _, _, _, _, _, _, _, _, _, _, _, _, _, _, _, _, _, _, _, _, _, _, _, _ => none
 | k + 1, x3, x7, x11, x52, x115000, x115001, x115002, x115003, x115004, x115005, x115006, x115007, x115008, x115009, x115010, x127000, x127001, x127002, x127003, x127004, x127005, x127006, x127007, x127008, x127009, x127010, x140000, x140001, x140002, x140003, x140004, x140005, x140006, x140007, x140008, x140009, x140010, x166000, x166001, x166002, x166003, x166004, x166005, x166006, x166007, x166008, x166009, x166010 => if x52 = true then (none) else (if x127000 = 0 then (if x3 = true then (some (x11 == 11)) else (none)) else ((worth_Of.f k 1).bind fun bt166 => (if x11 = 0 then (drachmlaw04_WorthBack.j1 k x3 x7 ((!(x166000 == bt166.1) || (!(x166001 == bt166.2.1) || (!(x166002 == bt166.2.2.1)))) || ((!(x166003 == bt166.2.2.2.1) || (!(x166004 == bt166.2.2.2.2.1) || (!(x166005 == bt166.2.2.2.2.2.1) || (!(x166006 == bt166.2.2.2.2.2.2.1) || (!(x166007 == bt166.2.2.2.2.2.2.2.1) || (!(x166008 == bt166.2.2.2.2.2.2.2.2.1) || (!(x166009 == bt166.2.2.2.2.2.2.2.2.2.1)))))))) || (!(x166010 == bt166.2.2.2.2.2.2.2.2.2.2.1)))) x115000 x115001 x115002 x115003 x115004 x115005 x115006 x115007 x115008 x115009 x115010 x127000 x127001 x127002 x127003 x127004 x127005 x127006 x127007 x127008 x127009 x127010 x140000 x140001 x140002 x140003 x140004 x140005 x140006 x140007 x140008 x140009 x140010) else (drachmlaw04_WorthBack.j1 k x3 x7 true x115000 x115001 x115002 x115003 x115004 x115005 x115006 x115007 x115008 x115009 x115010 x127000 x127001 x127002 x127003 x127004 x127005 x127006 x127007 x127008 x127009 x127010 x140000 x140001 x140002 x140003 x140004 x140005 x140006 x140007 x140008 x140009 x140010))))
def drachmlaw04_WorthBack.j1 : Nat → Bool → Int → Bool → Int → Int → Int → Int → Int → Int → Int → Int → Int → Int → Int → Int → Int → Int → Int → Int → Int → Int → Int → Int → Int → Int → Int → Int → Int → Int → Int → Int → Int → Int → Int → Int → Int → Option (Bool)
 | 0, _, _, _, _, _, _, _, _, _, _, _, _, _, _, _, _, _, _, _, _, _, _, _, _, _, _, _, _, _, _, _, _, _, _, _, _ => none
 | k + 1, x3, x7, x72, x115000, x115001, x115002, x115003, x115004, x115005, x115006, x115007, x115008, x115009, x115010, x127000, x127001, x127002, x127003, x127004, x127005, x127006, x127007, x127008, x127009, x127010, x140000, x140001, x140002, x140003, x140004, x140005, x140006, x140007, x140008, x140009, x140010 => if x72 = true then (none) else (if x7 = 0 then ((worth_Div.f k x140000 x140001 x140002 x140003 x140004 x140005 x140006 x140007 x140008 x140009 x140010 x127000 x127001 x127002 x127003 x127004 x127005 x127006 x127007 x127008 x127009 x127010).bind fun bt179 => (if x3 = true then (if bt179.2.2.2.2.2.2.2.2.2.2.2 = 0 then (if (bt179.1 == x115000 && (bt179.2.1 == x115001 && (bt179.2.2.1 == x115002))) = true then (some (bt179.2.2.2.1 == x115003 && (bt179.2.2.2.2.1 == x115004 && (bt179.2.2.2.2.2.1 == x115005 && (bt179.2.2.2.2.2.2.1 == x115006 && (bt179.2.2.2.2.2.2.2.1 == x115007 && (bt179.2.2.2.2.2.2.2.2.1 == x115008 && (bt179.2.2.2.2.2.2.2.2.2.1 == x115009)))))))) else (none)) else (none)) else (none))) else (if x3 = true then (some (x7 == 10)) else (none)))
end
def drachmlaw04_WorthBack.f (k : Nat) (a0_0 : Int) (a0_1 : Int) (a0_2 : Int) (a0_3 : Int) (a0_4 : Int) (a0_5 : Int) (a0_6 : Int) (a0_7 : Int) (a0_8 : Int) (a0_9 : Int) (a0_10 : Int) (a0_11 : Int) (a0_12 : Int) (a0_13 : Int) (a0_14 : Int) (a0_15 : Int) (a0_16 : Int) (a0_17 : Int) (a0_18 : Int) (a0_19 : Int) (a0_20 : Int) (a0_21 : Int) : Option (Bool) := (drachmlaw04_awake.f k).bind fun t102 => ((drachmref04_Spec_Worth.f k a0_0 a0_1 a0_2 a0_3 a0_4 a0_5 a0_6 a0_7 a0_8 a0_9 0).bind fun bt103 => ((drachmref04_Spec_Worth.f k a0_11 a0_12 a0_13 a0_14 a0_15 a0_16 a0_17 a0_18 a0_19 a0_20 0).bind fun bt115 => ((worth_Mul.f k bt103.1 bt103.2.1 bt103.2.2.1 bt103.2.2.2.1 bt103.2.2.2.2.1 bt103.2.2.2.2.2.1 bt103.2.2.2.2.2.2.1 bt103.2.2.2.2.2.2.2.1 bt103.2.2.2.2.2.2.2.2.1 bt103.2.2.2.2.2.2.2.2.2.1 bt103.2.2.2.2.2.2.2.2.2.2 bt115.1 bt115.2.1 bt115.2.2.1 bt115.2.2.2.1 bt115.2.2.2.2.1 bt115.2.2.2.2.2.1 bt115.2.2.2.2.2.2.1 bt115.2.2.2.2.2.2.2.1 bt115.2.2.2.2.2.2.2.2.1 bt115.2.2.2.2.2.2.2.2.2.1 bt115.2.2.2.2.2.2.2.2.2.2).bind fun bt127 => ((worth_Mul.f k bt115.1 bt115.2.1 bt115.2.2.1 bt115.2.2.2.1 bt115.2.2.2.2.1 bt115.2.2.2.2.2.1 bt115.2.2.2.2.2.2.1 bt115.2.2.2.2.2.2.2.1 bt115.2.2.2.2.2.2.2.2.1 bt115.2.2.2.2.2.2.2.2.2.1 bt115.2.2.2.2.2.2.2.2.2.2 bt103.1 bt103.2.1 bt103.2.2.1 bt103.2.2.2.1 bt103.2.2.2.2.1 bt103.2.2.2.2.2.1 bt103.2.2.2.2.2.2.1 bt103.2.2.2.2.2.2.2.1 bt103.2.2.2.2.2.2.2.2.1 bt103.2.2.2.2.2.2.2.2.2.1 bt103.2.2.2.2.2.2.2.2.2.2).bind fun bt140 => ((worth_Div.f k bt115.1 bt115.2.1 bt115.2.2.1 bt115.2.2.2.1 bt115.2.2.2.2.1 bt115.2.2.2.2.2.1 bt115.2.2.2.2.2.2.1 bt115.2.2.2.2.2.2.2.1 bt115.2.2.2.2.2.2.2.2.1 bt115.2.2.2.2.2.2.2.2.2.1 bt115.2.2.2.2.2.2.2.2.2.2 bt115.1 bt115.2.1 bt115.2.2.1 bt115.2.2.2.1 bt115.2.2.2.2.1 bt115.2.2.2.2.2.1 bt115.2.2.2.2.2.2.1 bt115.2.2.2.2.2.2.2.1 bt115.2.2.2.2.2.2.2.2.1 bt115.2.2.2.2.2.2.2.2.2.1 bt115.2.2.2.2.2.2.2.2.2.2).bind fun bt153 => (if ((!(bt127.1 == bt140.1) || (!(bt127.2.1 == bt140.2.1) || (!(bt127.2.2.1 == bt140.2.2.1)))) || ((!(bt127.2.2.2.1 == bt140.2.2.2.1) || (!(bt127.2.2.2.2.1 == bt140.2.2.2.2.1) || (!(bt127.2.2.2.2.2.1 == bt140.2.2.2.2.2.1) || (!(bt127.2.2.2.2.2.2.1 == bt140.2.2.2.2.2.2.1) || (!(bt127.2.2.2.2.2.2.2.1 == bt140.2.2.2.2.2.2.2.1) || (!(bt127.2.2.2.2.2.2.2.2.1 == bt140.2.2.2.2.2.2.2.2.1) || (!(bt127.2.2.2.2.2.2.2.2.2.1 == bt140.2.2.2.2.2.2.2.2.2.1)))))))) || (!(bt127.2.2.2.2.2.2.2.2.2.2.1 == bt140.2.2.2.2.2.2.2.2.2.2.1)))) = true then (drachmlaw04_WorthBack.j0 k t102 bt127.2.2.2.2.2.2.2.2.2.2.2 bt153.2.2.2.2.2.2.2.2.2.2.2 true bt103.1 bt103.2.1 bt103.2.2.1 bt103.2.2.2.1 bt103.2.2.2.2.1 bt103.2.2.2.2.2.1 bt103.2.2.2.2.2.2.1 bt103.2.2.2.2.2.2.2.1 bt103.2.2.2.2.2.2.2.2.1 bt103.2.2.2.2.2.2.2.2.2.1 bt103.2.2.2.2.2.2.2.2.2.2 bt115.1 bt115.2.1 bt115.2.2.1 bt115.2.2.2.1 bt115.2.2.2.2.1 bt115.2.2.2.2.2.1 bt115.2.2.2.2.2.2.1 bt115.2.2.2.2.2.2.2.1 bt115.2.2.2.2.2.2.2.2.1 bt115.2.2.2.2.2.2.2.2.2.1 bt115.2.2.2.2.2.2.2.2.2.2 bt127.1 bt127.2.1 bt127.2.2.1 bt127.2.2.2.1 bt127.2.2.2.2.1 bt127.2.2.2.2.2.1 bt127.2.2.2.2.2.2.1 bt127.2.2.2.2.2.2.2.1 bt127.2.2.2.2.2.2.2.2.1 bt127.2.2.2.2.2.2.2.2.2.1 bt127.2.2.2.2.2.2.2.2.2.2.1 bt153.1 bt153.2.1 bt153.2.2.1 bt153.2.2.2.1 bt153.2.2.2.2.1 bt153.2.2.2.2.2.1 bt153.2.2.2.2.2.2.1 bt153.2.2.2.2.2.2.2.1 bt153.2.2.2.2.2.2.2.2.1 bt153.2.2.2.2.2.2.2.2.2.1 bt153.2.2.2.2.2.2.2.2.2.2.1) else (drachmlaw04_WorthBack.j0 k t102 bt127.2.2.2.2.2.2.2.2.2.2.2 bt153.2.2.2.2.2.2.2.2.2.2.2 (bt127.2.2.2.2.2.2.2.2.2.2.2 != bt140.2.2.2.2.2.2.2.2.2.2.2) bt103.1 bt103.2.1 bt103.2.2.1 bt103.2.2.2.1 bt103.2.2.2.2.1 bt103.2.2.2.2.2.1 bt103.2.2.2.2.2.2.1 bt103.2.2.2.2.2.2.2.1 bt103.2.2.2.2.2.2.2.2.1 bt103.2.2.2.2.2.2.2.2.2.1 bt103.2.2.2.2.2.2.2.2.2.2 bt115.1 bt115.2.1 bt115.2.2.1 bt115.2.2.2.1 bt115.2.2.2.2.1 bt115.2.2.2.2.2.1 bt115.2.2.2.2.2.2.1 bt115.2.2.2.2.2.2.2.1 bt115.2.2.2.2.2.2.2.2.1 bt115.2.2.2.2.2.2.2.2.2.1 bt115.2.2.2.2.2.2.2.2.2.2 bt127.1 bt127.2.1 bt127.2.2.1 bt127.2.2.2.1 bt127.2.2.2.2.1 bt127.2.2.2.2.2.1 bt127.2.2.2.2.2.2.1 bt127.2.2.2.2.2.2.2.1 bt127.2.2.2.2.2.2.2.2.1 bt127.2.2.2.2.2.2.2.2.2.1 bt127.2.2.2.2.2.2.2.2.2.2.1 bt153.1 bt153.2.1 bt153.2.2.1 bt153.2.2.2.1 bt153.2.2.2.2.1 bt153.2.2.2.2.2.1 bt153.2.2.2.2.2.2.1 bt153.2.2.2.2.2.2.2.1 bt153.2.2.2.2.2.2.2.2.1 bt153.2.2.2.2.2.2.2.2.2.1 bt153.2.2.2.2.2.2.2.2.2.2.1)))))))
theorem drachmlaw04_WorthBack.mono_l : ∀ k, (∀ y0 y1 y2 y3 y4 y5 y6 y7 y8 y9 y10 y11 y12 y13 y14 y15 y16 y17 y18 y19 y20 y21 y22 y23 y24 y25 y26 y27 y28 y29 y30 y31 y32 y33 y34 y35 y36 y37 y38 y39 y40 y41 y42 y43 y44 y45 y46 y47, LeO (drachmlaw04_WorthBack.j0 k y0 y1 y2 y3 y4 y5 y6 y7 y8 y9 y10 y11 y12 y13 y14 y15 y16 y17 y18 y19 y20 y21 y22 y23 y24 y25 y26 y27 y28 y29 y30 y31 y32 y33 y34 y35 y36 y37 y38 y39 y40 y41 y42 y43 y44 y45 y46 y47) (drachmlaw04_WorthBack.j0 (k + 1) y0 y1 y2 y3 y4 y5 y6 y7 y8 y9 y10 y11 y12 y13 y14 y15 y16 y17 y18 y19 y20 y21 y22 y23 y24 y25 y26 y27 y28 y29 y30 y31 y32 y33 y34 y35 y36 y37 y38 y39 y40 y41 y42 y43 y44 y45 y46 y47)) ∧ (∀ y0 y1 y2 y3 y4 y5 y6 y7 y8 y9 y10 y11 y12 y13 y14 y15 y16 y17 y18 y19 y20 y21 y22 y23 y24 y25 y26 y27 y28 y29 y30 y31 y32 y33 y34 y35, LeO (drachmlaw04_WorthBack.j1 k y0 y1 y2 y3 y4 y5 y6 y7 y8 y9 y10 y11 y12 y13 y14 y15 y16 y17 y18 y19 y20 y21 y22 y23 y24 y25 y26 y27 y28 y29 y30 y31 y32 y33 y34 y35) (drachmlaw04_WorthBack.j1 (k + 1) y0 y1 y2 y3 y4 y5 y6 y7 y8 y9 y10 y11 y12 y13 y14 y15 y16 y17 y18 y19 y20 y21 y22 y23 y24 y25 y26 y27 y28 y29 y30 y31 y32 y33 y34 y35))
 | 0 => ⟨fun _ _ _ _ _ _ _ _ _ _ _ _ _ _ _ _ _ _ _ _ _ _ _ _ _ _ _ _ _ _ _ _ _ _ _ _ _ _ _ _ _ _ _ _ _ _ _ _ r h => by simp [drachmlaw04_WorthBack.j0] at h, fun _ _ _ _ _ _ _ _ _ _ _ _ _ _ _ _ _ _ _ _ _ _ _ _ _ _ _ _ _ _ _ _ _ _ _ _ r h => by simp [drachmlaw04_WorthBack.j1] at h⟩
 | k + 1 => by
  obtain ⟨ih0, ih1⟩ := drachmlaw04_WorthBack.mono_l k
  refine ⟨?_, ?_⟩
  ·intro y0 y1 y2 y3 y4 y5 y6 y7 y8 y9 y10 y11 y12 y13 y14 y15 y16 y17 y18 y19 y20 y21 y22 y23 y24 y25 y26 y27 y28 y29 y30 y31 y32 y33 y34 y35 y36 y37 y38 y39 y40 y41 y42 y43 y44 y45 y46 y47
   unfold drachmlaw04_WorthBack.j0
   repeat' first
   | (with_reducible exact ih0 _ _ _ _ _ _ _ _ _ _ _ _ _ _ _ _ _ _ _ _ _ _ _ _ _ _ _ _ _ _ _ _ _ _ _ _ _ _ _ _ _ _ _ _ _ _ _ _)
   | (with_reducible exact ih1 _ _ _ _ _ _ _ _ _ _ _ _ _ _ _ _ _ _ _ _ _ _ _ _ _ _ _ _ _ _ _ _ _ _ _ _)
   | (with_reducible exact drachmlaw04_awake.mono _)
   | (with_reducible exact drachmref04_Spec_Worth.mono _ _ _ _ _ _ _ _ _ _ _ _)
   | (with_reducible exact worth_Div.mono _ _ _ _ _ _ _ _ _ _ _ _ _ _ _ _ _ _ _ _ _ _ _)
   | (with_reducible exact worth_Mul.mono _ _ _ _ _ _ _ _ _ _ _ _ _ _ _ _ _ _ _ _ _ _ _)
   | (with_reducible exact worth_Of.mono _ _)
   | (with_reducible exact LeO.refl _)
   | (with_reducible exact LeO.none _)
   | (with_reducible refine LeO.ite ?_ ?_)
   | (with_reducible refine LeO.bind ?_ (fun _ => ?_))
   | exact ih0 _ _ _ _ _ _ _ _ _ _ _ _ _ _ _ _ _ _ _ _ _ _ _ _ _ _ _ _ _ _ _ _ _ _ _ _ _ _ _ _ _ _ _ _ _ _ _ _
   | exact ih1 _ _ _ _ _ _ _ _ _ _ _ _ _ _ _ _ _ _ _ _ _ _ _ _ _ _ _ _ _ _ _ _ _ _ _ _
   | exact drachmlaw04_awake.mono _
   | exact drachmref04_Spec_Worth.mono _ _ _ _ _ _ _ _ _ _ _ _
   | exact worth_Div.mono _ _ _ _ _ _ _ _ _ _ _ _ _ _ _ _ _ _ _ _ _ _ _
   | exact worth_Mul.mono _ _ _ _ _ _ _ _ _ _ _ _ _ _ _ _ _ _ _ _ _ _ _
   | exact worth_Of.mono _ _
   | exact LeO.none _
   | refine LeO.ite ?_ ?_
   | refine LeO.bind ?_ (fun _ => ?_)
  ·intro y0 y1 y2 y3 y4 y5 y6 y7 y8 y9 y10 y11 y12 y13 y14 y15 y16 y17 y18 y19 y20 y21 y22 y23 y24 y25 y26 y27 y28 y29 y30 y31 y32 y33 y34 y35
   unfold drachmlaw04_WorthBack.j1
   repeat' first
   | (with_reducible exact ih0 _ _ _ _ _ _ _ _ _ _ _ _ _ _ _ _ _ _ _ _ _ _ _ _ _ _ _ _ _ _ _ _ _ _ _ _ _ _ _ _ _ _ _ _ _ _ _ _)
   | (with_reducible exact ih1 _ _ _ _ _ _ _ _ _ _ _ _ _ _ _ _ _ _ _ _ _ _ _ _ _ _ _ _ _ _ _ _ _ _ _ _)
   | (with_reducible exact drachmlaw04_awake.mono _)
   | (with_reducible exact drachmref04_Spec_Worth.mono _ _ _ _ _ _ _ _ _ _ _ _)
   | (with_reducible exact worth_Div.mono _ _ _ _ _ _ _ _ _ _ _ _ _ _ _ _ _ _ _ _ _ _ _)
   | (with_reducible exact worth_Mul.mono _ _ _ _ _ _ _ _ _ _ _ _ _ _ _ _ _ _ _ _ _ _ _)
   | (with_reducible exact worth_Of.mono _ _)
   | (with_reducible exact LeO.refl _)
   | (with_reducible exact LeO.none _)
   | (with_reducible refine LeO.ite ?_ ?_)
   | (with_reducible refine LeO.bind ?_ (fun _ => ?_))
   | exact ih0 _ _ _ _ _ _ _ _ _ _ _ _ _ _ _ _ _ _ _ _ _ _ _ _ _ _ _ _ _ _ _ _ _ _ _ _ _ _ _ _ _ _ _ _ _ _ _ _
   | exact ih1 _ _ _ _ _ _ _ _ _ _ _ _ _ _ _ _ _ _ _ _ _ _ _ _ _ _ _ _ _ _ _ _ _ _ _ _
   | exact drachmlaw04_awake.mono _
   | exact drachmref04_Spec_Worth.mono _ _ _ _ _ _ _ _ _ _ _ _
   | exact worth_Div.mono _ _ _ _ _ _ _ _ _ _ _ _ _ _ _ _ _ _ _ _ _ _ _
   | exact worth_Mul.mono _ _ _ _ _ _ _ _ _ _ _ _ _ _ _ _ _ _ _ _ _ _ _
   | exact worth_Of.mono _ _
   | exact LeO.none _
   | refine LeO.ite ?_ ?_
   | refine LeO.bind ?_ (fun _ => ?_)
theorem drachmlaw04_WorthBack.mono : ∀ a0 a1 a2 a3 a4 a5 a6 a7 a8 a9 a10 a11 a12 a13 a14 a15 a16 a17 a18 a19 a20 a21 k, LeO (drachmlaw04_WorthBack.f k a0 a1 a2 a3 a4 a5 a6 a7 a8 a9 a10 a11 a12 a13 a14 a15 a16 a17 a18 a19 a20 a21) (drachmlaw04_WorthBack.f (k + 1) a0 a1 a2 a3 a4 a5 a6 a7 a8 a9 a10 a11 a12 a13 a14 a15 a16 a17 a18 a19 a20 a21) := by
 intro a0 a1 a2 a3 a4 a5 a6 a7 a8 a9 a10 a11 a12 a13 a14 a15 a16 a17 a18 a19 a20 a21 k
 obtain ⟨ih0, ih1⟩ := drachmlaw04_WorthBack.mono_l k
 unfold drachmlaw04_WorthBack.f
 repeat' first
   | (with_reducible exact ih0 _ _ _ _ _ _ _ _ _ _ _ _ _ _ _ _ _ _ _ _ _ _ _ _ _ _ _ _ _ _ _ _ _ _ _ _ _ _ _ _ _ _ _ _ _ _ _ _)
   | (with_reducible exact ih1 _ _ _ _ _ _ _ _ _ _ _ _ _ _ _ _ _ _ _ _ _ _ _ _ _ _ _ _ _ _ _ _ _ _ _ _)
   | (with_reducible exact drachmlaw04_awake.mono _)
   | (with_reducible exact drachmref04_Spec_Worth.mono _ _ _ _ _ _ _ _ _ _ _ _)
   | (with_reducible exact worth_Div.mono _ _ _ _ _ _ _ _ _ _ _ _ _ _ _ _ _ _ _ _ _ _ _)
   | (with_reducible exact worth_Mul.mono _ _ _ _ _ _ _ _ _ _ _ _ _ _ _ _ _ _ _ _ _ _ _)
   | (with_reducible exact worth_Of.mono _ _)
   | (with_reducible exact LeO.refl _)
   | (with_reducible exact LeO.none _)
   | (with_reducible refine LeO.ite ?_ ?_)
   | (with_reducible refine LeO.bind ?_ (fun _ => ?_))
   | exact ih0 _ _ _ _ _ _ _ _ _ _ _ _ _ _ _ _ _ _ _ _ _ _ _ _ _ _ _ _ _ _ _ _ _ _ _ _ _ _ _ _ _ _ _ _ _ _ _ _
   | exact ih1 _ _ _ _ _ _ _ _ _ _ _ _ _ _ _ _ _ _ _ _ _ _ _ _ _ _ _ _ _ _ _ _ _ _ _ _
   | exact drachmlaw04_awake.mono _
   | exact drachmref04_Spec_Worth.mono _ _ _ _ _ _ _ _ _ _ _ _
   | exact worth_Div.mono _ _ _ _ _ _ _ _ _ _ _ _ _ _ _ _ _ _ _ _ _ _ _
   | exact worth_Mul.mono _ _ _ _ _ _ _ _ _ _ _ _ _ _ _ _ _ _ _ _ _ _ _
   | exact worth_Of.mono _ _
   | exact LeO.none _
   | refine LeO.ite ?_ ?_
   | refine LeO.bind ?_ (fun _ => ?_)
set_option maxHeartbeats 8000000 in
set_option maxRecDepth 100000 in
theorem drachmlaw04_WorthBack.calls (k : Nat) (a0_0 : Int) (a0_1 : Int) (a0_2 : Int) (a0_3 : Int) (a0_4 : Int) (a0_5 : Int) (a0_6 : Int) (a0_7 : Int) (a0_8 : Int) (a0_9 : Int) (a0_10 : Int) (a0_11 : Int) (a0_12 : Int) (a0_13 : Int) (a0_14 : Int) (a0_15 : Int) (a0_16 : Int) (a0_17 : Int) (a0_18 : Int) (a0_19 : Int) (a0_20 : Int) (a0_21 : Int) (r : Bool) (w : World) (hG : Glob [1, 2] w) (h : drachmlaw04_WorthBack.f k a0_0 a0_1 a0_2 a0_3 a0_4 a0_5 a0_6 a0_7 a0_8 a0_9 a0_10 a0_11 a0_12 a0_13 a0_14 a0_15 a0_16 a0_17 a0_18 a0_19 a0_20 a0_21 = some r) :
  Calls Tryd.prog 5 #[.agg #[.int .i64 a0_0, .int .i64 a0_1, .int .i64 a0_2, .int .i64 a0_3, .int .i64 a0_4, .int .i64 a0_5, .int .i64 a0_6, .int .i64 a0_7, .int .i64 a0_8, .int .i64 a0_9, .int .i64 a0_10, .int .i64 a0_11, .int .i64 a0_12, .int .i64 a0_13, .int .i64 a0_14, .int .i64 a0_15, .int .i64 a0_16, .int .i64 a0_17, .int .i64 a0_18, .int .i64 a0_19, .int .i64 a0_20, .int .i64 a0_21]] w fun e w' => e = .returned (.bool r) ∧ Below w.heap.size w w' := by
 have hu26 := Tryd.underlying26
 have hu25 := Tryd.underlying25
 have hu31 := Tryd.underlying31
 have hu29 := Tryd.underlying29
 have hu23 := Tryd.underlying23
 have HB := Aside0.mk (Below.refl w.heap.size w)
 have H : ((drachmlaw04_awake.f k).bind fun t102 => ((drachmref04_Spec_Worth.f k a0_0 a0_1 a0_2 a0_3 a0_4 a0_5 a0_6 a0_7 a0_8 a0_9 0).bind fun bt103 => ((drachmref04_Spec_Worth.f k a0_11 a0_12 a0_13 a0_14 a0_15 a0_16 a0_17 a0_18 a0_19 a0_20 0).bind fun bt115 => ((worth_Mul.f k bt103.1 bt103.2.1 bt103.2.2.1 bt103.2.2.2.1 bt103.2.2.2.2.1 bt103.2.2.2.2.2.1 bt103.2.2.2.2.2.2.1 bt103.2.2.2.2.2.2.2.1 bt103.2.2.2.2.2.2.2.2.1 bt103.2.2.2.2.2.2.2.2.2.1 bt103.2.2.2.2.2.2.2.2.2.2 bt115.1 bt115.2.1 bt115.2.2.1 bt115.2.2.2.1 bt115.2.2.2.2.1 bt115.2.2.2.2.2.1 bt115.2.2.2.2.2.2.1 bt115.2.2.2.2.2.2.2.1 bt115.2.2.2.2.2.2.2.2.1 bt115.2.2.2.2.2.2.2.2.2.1 bt115.2.2.2.2.2.2.2.2.2.2).bind fun bt127 => ((worth_Mul.f k bt115.1 bt115.2.1 bt115.2.2.1 bt115.2.2.2.1 bt115.2.2.2.2.1 bt115.2.2.2.2.2.1 bt115.2.2.2.2.2.2.1 bt115.2.2.2.2.2.2.2.1 bt115.2.2.2.2.2.2.2.2.1 bt115.2.2.2.2.2.2.2.2.2.1 bt115.2.2.2.2.2.2.2.2.2.2 bt103.1 bt103.2.1 bt103.2.2.1 bt103.2.2.2.1 bt103.2.2.2.2.1 bt103.2.2.2.2.2.1 bt103.2.2.2.2.2.2.1 bt103.2.2.2.2.2.2.2.1 bt103.2.2.2.2.2.2.2.2.1 bt103.2.2.2.2.2.2.2.2.2.1 bt103.2.2.2.2.2.2.2.2.2.2).bind fun bt140 => ((worth_Div.f k bt115.1 bt115.2.1 bt115.2.2.1 bt115.2.2.2.1 bt115.2.2.2.2.1 bt115.2.2.2.2.2.1 bt115.2.2.2.2.2.2.1 bt115.2.2.2.2.2.2.2.1 bt115.2.2.2.2.2.2.2.2.1 bt115.2.2.2.2.2.2.2.2.2.1 bt115.2.2.2.2.2.2.2.2.2.2 bt115.1 bt115.2.1 bt115.2.2.1 bt115.2.2.2.1 bt115.2.2.2.2.1 bt115.2.2.2.2.2.1 bt115.2.2.2.2.2.2.1 bt115.2.2.2.2.2.2.2.1 bt115.2.2.2.2.2.2.2.2.1 bt115.2.2.2.2.2.2.2.2.2.1 bt115.2.2.2.2.2.2.2.2.2.2).bind fun bt153 => (if ((!(bt127.1 == bt140.1) || (!(bt127.2.1 == bt140.2.1) || (!(bt127.2.2.1 == bt140.2.2.1)))) || ((!(bt127.2.2.2.1 == bt140.2.2.2.1) || (!(bt127.2.2.2.2.1 == bt140.2.2.2.2.1) || (!(bt127.2.2.2.2.2.1 == bt140.2.2.2.2.2.1) || (!(bt127.2.2.2.2.2.2.1 == bt140.2.2.2.2.2.2.1) || (!(bt127.2.2.2.2.2.2.2.1 == bt140.2.2.2.2.2.2.2.1) || (!(bt127.2.2.2.2.2.2.2.2.1 == bt140.2.2.2.2.2.2.2.2.1) || (!(bt127.2.2.2.2.2.2.2.2.2.1 == bt140.2.2.2.2.2.2.2.2.2.1)))))))) || (!(bt127.2.2.2.2.2.2.2.2.2.2.1 == bt140.2.2.2.2.2.2.2.2.2.2.1)))) = true then (drachmlaw04_WorthBack.j0 k t102 bt127.2.2.2.2.2.2.2.2.2.2.2 bt153.2.2.2.2.2.2.2.2.2.2.2 true bt103.1 bt103.2.1 bt103.2.2.1 bt103.2.2.2.1 bt103.2.2.2.2.1 bt103.2.2.2.2.2.1 bt103.2.2.2.2.2.2.1 bt103.2.2.2.2.2.2.2.1 bt103.2.2.2.2.2.2.2.2.1 bt103.2.2.2.2.2.2.2.2.2.1 bt103.2.2.2.2.2.2.2.2.2.2 bt115.1 bt115.2.1 bt115.2.2.1 bt115.2.2.2.1 bt115.2.2.2.2.1 bt115.2.2.2.2.2.1 bt115.2.2.2.2.2.2.1 bt115.2.2.2.2.2.2.2.1 bt115.2.2.2.2.2.2.2.2.1 bt115.2.2.2.2.2.2.2.2.2.1 bt115.2.2.2.2.2.2.2.2.2.2 bt127.1 bt127.2.1 bt127.2.2.1 bt127.2.2.2.1 bt127.2.2.2.2.1 bt127.2.2.2.2.2.1 bt127.2.2.2.2.2.2.1 bt127.2.2.2.2.2.2.2.1 bt127.2.2.2.2.2.2.2.2.1 bt127.2.2.2.2.2.2.2.2.2.1 bt127.2.2.2.2.2.2.2.2.2.2.1 bt153.1 bt153.2.1 bt153.2.2.1 bt153.2.2.2.1 bt153.2.2.2.2.1 bt153.2.2.2.2.2.1 bt153.2.2.2.2.2.2.1 bt153.2.2.2.2.2.2.2.1 bt153.2.2.2.2.2.2.2.2.1 bt153.2.2.2.2.2.2.2.2.2.1 bt153.2.2.2.2.2.2.2.2.2.2.1) else (drachmlaw04_WorthBack.j0 k t102 bt127.2.2.2.2.2.2.2.2.2.2.2 bt153.2.2.2.2.2.2.2.2.2.2.2 (bt127.2.2.2.2.2.2.2.2.2.2.2 != bt140.2.2.2.2.2.2.2.2.2.2.2) bt103.1 bt103.2.1 bt103.2.2.1 bt103.2.2.2.1 bt103.2.2.2.2.1 bt103.2.2.2.2.2.1 bt103.2.2.2.2.2.2.1 bt103.2.2.2.2.2.2.2.1 bt103.2.2.2.2.2.2.2.2.1 bt103.2.2.2.2.2.2.2.2.2.1 bt103.2.2.2.2.2.2.2.2.2.2 bt115.1 bt115.2.1 bt115.2.2.1 bt115.2.2.2.1 bt115.2.2.2.2.1 bt115.2.2.2.2.2.1 bt115.2.2.2.2.2.2.1 bt115.2.2.2.2.2.2.2.1 bt115.2.2.2.2.2.2.2.2.1 bt115.2.2.2.2.2.2.2.2.2.1 bt115.2.2.2.2.2.2.2.2.2.2 bt127.1 bt127.2.1 bt127.2.2.1 bt127.2.2.2.1 bt127.2.2.2.2.1 bt127.2.2.2.2.2.1 bt127.2.2.2.2.2.2.1 bt127.2.2.2.2.2.2.2.1 bt127.2.2.2.2.2.2.2.2.1 bt127.2.2.2.2.2.2.2.2.2.1 bt127.2.2.2.2.2.2.2.2.2.2.1 bt153.1 bt153.2.1 bt153.2.2.1 bt153.2.2.2.1 bt153.2.2.2.2.1 bt153.2.2.2.2.2.1 bt153.2.2.2.2.2.2.1 bt153.2.2.2.2.2.2.2.1 bt153.2.2.2.2.2.2.2.2.1 bt153.2.2.2.2.2.2.2.2.2.1 bt153.2.2.2.2.2.2.2.2.2.2.1)))))))) = some r := h
 clear h
 replace H := Option.bind_eq_some_iff.mp H
 obtain ⟨t102, A20, H⟩ := H
 replace H : ((drachmref04_Spec_Worth.f k a0_0 a0_1 a0_2 a0_3 a0_4 a0_5 a0_6 a0_7 a0_8 a0_9 0).bind fun bt103 => ((drachmref04_Spec_Worth.f k a0_11 a0_12 a0_13 a0_14 a0_15 a0_16 a0_17 a0_18 a0_19 a0_20 0).bind fun bt115 => ((worth_Mul.f k bt103.1 bt103.2.1 bt103.2.2.1 bt103.2.2.2.1 bt103.2.2.2.2.1 bt103.2.2.2.2.2.1 bt103.2.2.2.2.2.2.1 bt103.2.2.2.2.2.2.2.1 bt103.2.2.2.2.2.2.2.2.1 bt103.2.2.2.2.2.2.2.2.2.1 bt103.2.2.2.2.2.2.2.2.2.2 bt115.1 bt115.2.1 bt115.2.2.1 bt115.2.2.2.1 bt115.2.2.2.2.1 bt115.2.2.2.2.2.1 bt115.2.2.2.2.2.2.1 bt115.2.2.2.2.2.2.2.1 bt115.2.2.2.2.2.2.2.2.1 bt115.2.2.2.2.2.2.2.2.2.1 bt115.2.2.2.2.2.2.2.2.2.2).bind fun bt127 => ((worth_Mul.f k bt115.1 bt115.2.1 bt115.2.2.1 bt115.2.2.2.1 bt115.2.2.2.2.1 bt115.2.2.2.2.2.1 bt115.2.2.2.2.2.2.1 bt115.2.2.2.2.2.2.2.1 bt115.2.2.2.2.2.2.2.2.1 bt115.2.2.2.2.2.2.2.2.2.1 bt115.2.2.2.2.2.2.2.2.2.2 bt103.1 bt103.2.1 bt103.2.2.1 bt103.2.2.2.1 bt103.2.2.2.2.1 bt103.2.2.2.2.2.1 bt103.2.2.2.2.2.2.1 bt103.2.2.2.2.2.2.2.1 bt103.2.2.2.2.2.2.2.2.1 bt103.2.2.2.2.2.2.2.2.2.1 bt103.2.2.2.2.2.2.2.2.2.2).bind fun bt140 => ((worth_Div.f k bt115.1 bt115.2.1 bt115.2.2.1 bt115.2.2.2.1 bt115.2.2.2.2.1 bt115.2.2.2.2.2.1 bt115.2.2.2.2.2.2.1 bt115.2.2.2.2.2.2.2.1 bt115.2.2.2.2.2.2.2.2.1 bt115.2.2.2.2.2.2.2.2.2.1 bt115.2.2.2.2.2.2.2.2.2.2 bt115.1 bt115.2.1 bt115.2.2.1 bt115.2.2.2.1 bt115.2.2.2.2.1 bt115.2.2.2.2.2.1 bt115.2.2.2.2.2.2.1 bt115.2.2.2.2.2.2.2.1 bt115.2.2.2.2.2.2.2.2.1 bt115.2.2.2.2.2.2.2.2.2.1 bt115.2.2.2.2.2.2.2.2.2.2).bind fun bt153 => (if ((!(bt127.1 == bt140.1) || (!(bt127.2.1 == bt140.2.1) || (!(bt127.2.2.1 == bt140.2.2.1)))) || ((!(bt127.2.2.2.1 == bt140.2.2.2.1) || (!(bt127.2.2.2.2.1 == bt140.2.2.2.2.1) || (!(bt127.2.2.2.2.2.1 == bt140.2.2.2.2.2.1) || (!(bt127.2.2.2.2.2.2.1 == bt140.2.2.2.2.2.2.1) || (!(bt127.2.2.2.2.2.2.2.1 == bt140.2.2.2.2.2.2.2.1) || (!(bt127.2.2.2.2.2.2.2.2.1 == bt140.2.2.2.2.2.2.2.2.1) || (!(bt127.2.2.2.2.2.2.2.2.2.1 == bt140.2.2.2.2.2.2.2.2.2.1)))))))) || (!(bt127.2.2.2.2.2.2.2.2.2.2.1 == bt140.2.2.2.2.2.2.2.2.2.2.1)))) = true then (drachmlaw04_WorthBack.j0 k t102 bt127.2.2.2.2.2.2.2.2.2.2.2 bt153.2.2.2.2.2.2.2.2.2.2.2 true bt103.1 bt103.2.1 bt103.2.2.1 bt103.2.2.2.1 bt103.2.2.2.2.1 bt103.2.2.2.2.2.1 bt103.2.2.2.2.2.2.1 bt103.2.2.2.2.2.2.2.1 bt103.2.2.2.2.2.2.2.2.1 bt103.2.2.2.2.2.2.2.2.2.1 bt103.2.2.2.2.2.2.2.2.2.2 bt115.1 bt115.2.1 bt115.2.2.1 bt115.2.2.2.1 bt115.2.2.2.2.1 bt115.2.2.2.2.2.1 bt115.2.2.2.2.2.2.1 bt115.2.2.2.2.2.2.2.1 bt115.2.2.2.2.2.2.2.2.1 bt115.2.2.2.2.2.2.2.2.2.1 bt115.2.2.2.2.2.2.2.2.2.2 bt127.1 bt127.2.1 bt127.2.2.1 bt127.2.2.2.1 bt127.2.2.2.2.1 bt127.2.2.2.2.2.1 bt127.2.2.2.2.2.2.1 bt127.2.2.2.2.2.2.2.1 bt127.2.2.2.2.2.2.2.2.1 bt127.2.2.2.2.2.2.2.2.2.1 bt127.2.2.2.2.2.2.2.2.2.2.1 bt153.1 bt153.2.1 bt153.2.2.1 bt153.2.2.2.1 bt153.2.2.2.2.1 bt153.2.2.2.2.2.1 bt153.2.2.2.2.2.2.1 bt153.2.2.2.2.2.2.2.1 bt153.2.2.2.2.2.2.2.2.1 bt153.2.2.2.2.2.2.2.2.2.1 bt153.2.2.2.2.2.2.2.2.2.2.1) else (drachmlaw04_WorthBack.j0 k t102 bt127.2.2.2.2.2.2.2.2.2.2.2 bt153.2.2.2.2.2.2.2.2.2.2.2 (bt127.2.2.2.2.2.2.2.2.2.2.2 != bt140.2.2.2.2.2.2.2.2.2.2.2) bt103.1 bt103.2.1 bt103.2.2.1 bt103.2.2.2.1 bt103.2.2.2.2.1 bt103.2.2.2.2.2.1 bt103.2.2.2.2.2.2.1 bt103.2.2.2.2.2.2.2.1 bt103.2.2.2.2.2.2.2.2.1 bt103.2.2.2.2.2.2.2.2.2.1 bt103.2.2.2.2.2.2.2.2.2.2 bt115.1 bt115.2.1 bt115.2.2.1 bt115.2.2.2.1 bt115.2.2.2.2.1 bt115.2.2.2.2.2.1 bt115.2.2.2.2.2.2.1 bt115.2.2.2.2.2.2.2.1 bt115.2.2.2.2.2.2.2.2.1 bt115.2.2.2.2.2.2.2.2.2.1 bt115.2.2.2.2.2.2.2.2.2.2 bt127.1 bt127.2.1 bt127.2.2.1 bt127.2.2.2.1 bt127.2.2.2.2.1 bt127.2.2.2.2.2.1 bt127.2.2.2.2.2.2.1 bt127.2.2.2.2.2.2.2.1 bt127.2.2.2.2.2.2.2.2.1 bt127.2.2.2.2.2.2.2.2.2.1 bt127.2.2.2.2.2.2.2.2.2.2.1 bt153.1 bt153.2.1 bt153.2.2.1 bt153.2.2.2.1 bt153.2.2.2.2.1 bt153.2.2.2.2.2.1 bt153.2.2.2.2.2.2.1 bt153.2.2.2.2.2.2.2.1 bt153.2.2.2.2.2.2.2.2.1 bt153.2.2.2.2.2.2.2.2.2.1 bt153.2.2.2.2.2.2.2.2.2.2.1))))))) = some r := H
 have A2 := Aside0.mk A20
 clear A20
 replace H := Option.bind_eq_some_iff.mp H
 obtain ⟨⟨t103, t104, t105, t106, t107, t108, t109, t110, t111, t112, t113⟩, A30, H⟩ := H
 replace H : ((drachmref04_Spec_Worth.f k a0_11 a0_12 a0_13 a0_14 a0_15 a0_16 a0_17 a0_18 a0_19 a0_20 0).bind fun bt115 => ((worth_Mul.f k t103 t104 t105 t106 t107 t108 t109 t110 t111 t112 t113 bt115.1 bt115.2.1 bt115.2.2.1 bt115.2.2.2.1 bt115.2.2.2.2.1 bt115.2.2.2.2.2.1 bt115.2.2.2.2.2.2.1 bt115.2.2.2.2.2.2.2.1 bt115.2.2.2.2.2.2.2.2.1 bt115.2.2.2.2.2.2.2.2.2.1 bt115.2.2.2.2.2.2.2.2.2.2).bind fun bt127 => ((worth_Mul.f k bt115.1 bt115.2.1 bt115.2.2.1 bt115.2.2.2.1 bt115.2.2.2.2.1 bt115.2.2.2.2.2.1 bt115.2.2.2.2.2.2.1 bt115.2.2.2.2.2.2.2.1 bt115.2.2.2.2.2.2.2.2.1 bt115.2.2.2.2.2.2.2.2.2.1 bt115.2.2.2.2.2.2.2.2.2.2 t103 t104 t105 t106 t107 t108 t109 t110 t111 t112 t113).bind fun bt140 => ((worth_Div.f k bt115.1 bt115.2.1 bt115.2.2.1 bt115.2.2.2.1 bt115.2.2.2.2.1 bt115.2.2.2.2.2.1 bt115.2.2.2.2.2.2.1 bt115.2.2.2.2.2.2.2.1 bt115.2.2.2.2.2.2.2.2.1 bt115.2.2.2.2.2.2.2.2.2.1 bt115.2.2.2.2.2.2.2.2.2.2 bt115.1 bt115.2.1 bt115.2.2.1 bt115.2.2.2.1 bt115.2.2.2.2.1 bt115.2.2.2.2.2.1 bt115.2.2.2.2.2.2.1 bt115.2.2.2.2.2.2.2.1 bt115.2.2.2.2.2.2.2.2.1 bt115.2.2.2.2.2.2.2.2.2.1 bt115.2.2.2.2.2.2.2.2.2.2).bind fun bt153 => (if ((!(bt127.1 == bt140.1) || (!(bt127.2.1 == bt140.2.1) || (!(bt127.2.2.1 == bt140.2.2.1)))) || ((!(bt127.2.2.2.1 == bt140.2.2.2.1) || (!(bt127.2.2.2.2.1 == bt140.2.2.2.2.1) || (!(bt127.2.2.2.2.2.1 == bt140.2.2.2.2.2.1) || (!(bt127.2.2.2.2.2.2.1 == bt140.2.2.2.2.2.2.1) || (!(bt127.2.2.2.2.2.2.2.1 == bt140.2.2.2.2.2.2.2.1) || (!(bt127.2.2.2.2.2.2.2.2.1 == bt140.2.2.2.2.2.2.2.2.1) || (!(bt127.2.2.2.2.2.2.2.2.2.1 == bt140.2.2.2.2.2.2.2.2.2.1)))))))) || (!(bt127.2.2.2.2.2.2.2.2.2.2.1 == bt140.2.2.2.2.2.2.2.2.2.2.1)))) = true then (drachmlaw04_WorthBack.j0 k t102 bt127.2.2.2.2.2.2.2.2.2.2.2 bt153.2.2.2.2.2.2.2.2.2.2.2 true t103 t104 t105 t106 t107 t108 t109 t110 t111 t112 t113 bt115.1 bt115.2.1 bt115.2.2.1 bt115.2.2.2.1 bt115.2.2.2.2.1 bt115.2.2.2.2.2.1 bt115.2.2.2.2.2.2.1 bt115.2.2.2.2.2.2.2.1 bt115.2.2.2.2.2.2.2.2.1 bt115.2.2.2.2.2.2.2.2.2.1 bt115.2.2.2.2.2.2.2.2.2.2 bt127.1 bt127.2.1 bt127.2.2.1 bt127.2.2.2.1 bt127.2.2.2.2.1 bt127.2.2.2.2.2.1 bt127.2.2.2.2.2.2.1 bt127.2.2.2.2.2.2.2.1 bt127.2.2.2.2.2.2.2.2.1 bt127.2.2.2.2.2.2.2.2.2.1 bt127.2.2.2.2.2.2.2.2.2.2.1 bt153.1 bt153.2.1 bt153.2.2.1 bt153.2.2.2.1 bt153.2.2.2.2.1 bt153.2.2.2.2.2.1 bt153.2.2.2.2.2.2.1 bt153.2.2.2.2.2.2.2.1 bt153.2.2.2.2.2.2.2.2.1 bt153.2.2.2.2.2.2.2.2.2.1 bt153.2.2.2.2.2.2.2.2.2.2.1) else (drachmlaw04_WorthBack.j0 k t102 bt127.2.2.2.2.2.2.2.2.2.2.2 bt153.2.2.2.2.2.2.2.2.2.2.2 (bt127.2.2.2.2.2.2.2.2.2.2.2 != bt140.2.2.2.2.2.2.2.2.2.2.2) t103 t104 t105 t106 t107 t108 t109 t110 t111 t112 t113 bt115.1 bt115.2.1 bt115.2.2.1 bt115.2.2.2.1 bt115.2.2.2.2.1 bt115.2.2.2.2.2.1 bt115.2.2.2.2.2.2.1 bt115.2.2.2.2.2.2.2.1 bt115.2.2.2.2.2.2.2.2.1 bt115.2.2.2.2.2.2.2.2.2.1 bt115.2.2.2.2.2.2.2.2.2.2 bt127.1 bt127.2.1 bt127.2.2.1 bt127.2.2.2.1 bt127.2.2.2.2.1 bt127.2.2.2.2.2.1 bt127.2.2.2.2.2.2.1 bt127.2.2.2.2.2.2.2.1 bt127.2.2.2.2.2.2.2.2.1 bt127.2.2.2.2.2.2.2.2.2.1 bt127.2.2.2.2.2.2.2.2.2.2.1 bt153.1 bt153.2.1 bt153.2.2.1 bt153.2.2.2.1 bt153.2.2.2.2.1 bt153.2.2.2.2.2.1 bt153.2.2.2.2.2.2.1 bt153.2.2.2.2.2.2.2.1 bt153.2.2.2.2.2.2.2.2.1 bt153.2.2.2.2.2.2.2.2.2.1 bt153.2.2.2.2.2.2.2.2.2.2.1)))))) = some r := H
 have A3 := Aside0.mk A30
 clear A30
 replace H := Option.bind_eq_some_iff.mp H
 obtain ⟨⟨t115, t116, t117, t118, t119, t120, t121, t122, t123, t124, t125⟩, A40, H⟩ := H
 replace H : ((worth_Mul.f k t103 t104 t105 t106 t107 t108 t109 t110 t111 t112 t113 t115 t116 t117 t118 t119 t120 t121 t122 t123 t124 t125).bind fun bt127 => ((worth_Mul.f k t115 t116 t117 t118 t119 t120 t121 t122 t123 t124 t125 t103 t104 t105 t106 t107 t108 t109 t110 t111 t112 t113).bind fun bt140 => ((worth_Div.f k t115 t116 t117 t118 t119 t120 t121 t122 t123 t124 t125 t115 t116 t117 t118 t119 t120 t121 t122 t123 t124 t125).bind fun bt153 => (if ((!(bt127.1 == bt140.1) || (!(bt127.2.1 == bt140.2.1) || (!(bt127.2.2.1 == bt140.2.2.1)))) || ((!(bt127.2.2.2.1 == bt140.2.2.2.1) || (!(bt127.2.2.2.2.1 == bt140.2.2.2.2.1) || (!(bt127.2.2.2.2.2.1 == bt140.2.2.2.2.2.1) || (!(bt127.2.2.2.2.2.2.1 == bt140.2.2.2.2.2.2.1) || (!(bt127.2.2.2.2.2.2.2.1 == bt140.2.2.2.2.2.2.2.1) || (!(bt127.2.2.2.2.2.2.2.2.1 == bt140.2.2.2.2.2.2.2.2.1) || (!(bt127.2.2.2.2.2.2.2.2.2.1 == bt140.2.2.2.2.2.2.2.2.2.1)))))))) || (!(bt127.2.2.2.2.2.2.2.2.2.2.1 == bt140.2.2.2.2.2.2.2.2.2.2.1)))) = true then (drachmlaw04_WorthBack.j0 k t102 bt127.2.2.2.2.2.2.2.2.2.2.2 bt153.2.2.2.2.2.2.2.2.2.2.2 true t103 t104 t105 t106 t107 t108 t109 t110 t111 t112 t113 t115 t116 t117 t118 t119 t120 t121 t122 t123 t124 t125 bt127.1 bt127.2.1 bt127.2.2.1 bt127.2.2.2.1 bt127.2.2.2.2.1 bt127.2.2.2.2.2.1 bt127.2.2.2.2.2.2.1 bt127.2.2.2.2.2.2.2.1 bt127.2.2.2.2.2.2.2.2.1 bt127.2.2.2.2.2.2.2.2.2.1 bt127.2.2.2.2.2.2.2.2.2.2.1 bt153.1 bt153.2.1 bt153.2.2.1 bt153.2.2.2.1 bt153.2.2.2.2.1 bt153.2.2.2.2.2.1 bt153.2.2.2.2.2.2.1 bt153.2.2.2.2.2.2.2.1 bt153.2.2.2.2.2.2.2.2.1 bt153.2.2.2.2.2.2.2.2.2.1 bt153.2.2.2.2.2.2.2.2.2.2.1) else (drachmlaw04_WorthBack.j0 k t102 bt127.2.2.2.2.2.2.2.2.2.2.2 bt153.2.2.2.2.2.2.2.2.2.2.2 (bt127.2.2.2.2.2.2.2.2.2.2.2 != bt140.2.2.2.2.2.2.2.2.2.2.2) t103 t104 t105 t106 t107 t108 t109 t110 t111 t112 t113 t115 t116 t117 t118 t119 t120 t121 t122 t123 t124 t125 bt127.1 bt127.2.1 bt127.2.2.1 bt127.2.2.2.1 bt127.2.2.2.2.1 bt127.2.2.2.2.2.1 bt127.2.2.2.2.2.2.1 bt127.2.2.2.2.2.2.2.1 bt127.2.2.2.2.2.2.2.2.1 bt127.2.2.2.2.2.2.2.2.2.1 bt127.2.2.2.2.2.2.2.2.2.2.1 bt153.1 bt153.2.1 bt153.2.2.1 bt153.2.2.2.1 bt153.2.2.2.2.1 bt153.2.2.2.2.2.1 bt153.2.2.2.2.2.2.1 bt153.2.2.2.2.2.2.2.1 bt153.2.2.2.2.2.2.2.2.1 bt153.2.2.2.2.2.2.2.2.2.1 bt153.2.2.2.2.2.2.2.2.2.2.1))))) = some r := H
 have A4 := Aside0.mk A40
 clear A40
 replace H := Option.bind_eq_some_iff.mp H
 obtain ⟨⟨t127, t128, t129, t130, t131, t132, t133, t134, t135, t136, t137, t138⟩, A50, H⟩ := H
 replace H : ((worth_Mul.f k t115 t116 t117 t118 t119 t120 t121 t122 t123 t124 t125 t103 t104 t105 t106 t107 t108 t109 t110 t111 t112 t113).bind fun bt140 => ((worth_Div.f k t115 t116 t117 t118 t119 t120 t121 t122 t123 t124 t125 t115 t116 t117 t118 t119 t120 t121 t122 t123 t124 t125).bind fun bt153 => (if ((!(t127 == bt140.1) || (!(t128 == bt140.2.1) || (!(t129 == bt140.2.2.1)))) || ((!(t130 == bt140.2.2.2.1) || (!(t131 == bt140.2.2.2.2.1) || (!(t132 == bt140.2.2.2.2.2.1) || (!(t133 == bt140.2.2.2.2.2.2.1) || (!(t134 == bt140.2.2.2.2.2.2.2.1) || (!(t135 == bt140.2.2.2.2.2.2.2.2.1) || (!(t136 == bt140.2.2.2.2.2.2.2.2.2.1)))))))) || (!(t137 == bt140.2.2.2.2.2.2.2.2.2.2.1)))) = true then (drachmlaw04_WorthBack.j0 k t102 t138 bt153.2.2.2.2.2.2.2.2.2.2.2 true t103 t104 t105 t106 t107 t108 t109 t110 t111 t112 t113 t115 t116 t117 t118 t119 t120 t121 t122 t123 t124 t125 t127 t128 t129 t130 t131 t132 t133 t134 t135 t136 t137 bt153.1 bt153.2.1 bt153.2.2.1 bt153.2.2.2.1 bt153.2.2.2.2.1 bt153.2.2.2.2.2.1 bt153.2.2.2.2.2.2.1 bt153.2.2.2.2.2.2.2.1 bt153.2.2.2.2.2.2.2.2.1 bt153.2.2.2.2.2.2.2.2.2.1 bt153.2.2.2.2.2.2.2.2.2.2.1) else (drachmlaw04_WorthBack.j0 k t102 t138 bt153.2.2.2.2.2.2.2.2.2.2.2 (t138 != bt140.2.2.2.2.2.2.2.2.2.2.2) t103 t104 t105 t106 t107 t108 t109 t110 t111 t112 t113 t115 t116 t117 t118 t119 t120 t121 t122 t123 t124 t125 t127 t128 t129 t130 t131 t132 t133 t134 t135 t136 t137 bt153.1 bt153.2.1 bt153.2.2.1 bt153.2.2.2.1 bt153.2.2.2.2.1 bt153.2.2.2.2.2.1 bt153.2.2.2.2.2.2.1 bt153.2.2.2.2.2.2.2.1 bt153.2.2.2.2.2.2.2.2.1 bt153.2.2.2.2.2.2.2.2.2.1 bt153.2.2.2.2.2.2.2.2.2.2.1)))) = some r := H
 have A5 := Aside0.mk A50
 clear A50
 replace H := Option.bind_eq_some_iff.mp H
 obtain ⟨⟨t140, t141, t142, t143, t144, t145, t146, t147, t148, t149, t150, t151⟩, A60, H⟩ := H
 replace H : ((worth_Div.f k t115 t116 t117 t118 t119 t120 t121 t122 t123 t124 t125 t115 t116 t117 t118 t119 t120 t121 t122 t123 t124 t125).bind fun bt153 => (if ((!(t127 == t140) || (!(t128 == t141) || (!(t129 == t142)))) || ((!(t130 == t143) || (!(t131 == t144) || (!(t132 == t145) || (!(t133 == t146) || (!(t134 == t147) || (!(t135 == t148) || (!(t136 == t149)))))))) || (!(t137 == t150)))) = true then (drachmlaw04_WorthBack.j0 k t102 t138 bt153.2.2.2.2.2.2.2.2.2.2.2 true t103 t104 t105 t106 t107 t108 t109 t110 t111 t112 t113 t115 t116 t117 t118 t119 t120 t121 t122 t123 t124 t125 t127 t128 t129 t130 t131 t132 t133 t134 t135 t136 t137 bt153.1 bt153.2.1 bt153.2.2.1 bt153.2.2.2.1 bt153.2.2.2.2.1 bt153.2.2.2.2.2.1 bt153.2.2.2.2.2.2.1 bt153.2.2.2.2.2.2.2.1 bt153.2.2.2.2.2.2.2.2.1 bt153.2.2.2.2.2.2.2.2.2.1 bt153.2.2.2.2.2.2.2.2.2.2.1) else (drachmlaw04_WorthBack.j0 k t102 t138 bt153.2.2.2.2.2.2.2.2.2.2.2 (t138 != t151) t103 t104 t105 t106 t107 t108 t109 t110 t111 t112 t113 t115 t116 t117 t118 t119 t120 t121 t122 t123 t124 t125 t127 t128 t129 t130 t131 t132 t133 t134 t135 t136 t137 bt153.1 bt153.2.1 bt153.2.2.1 bt153.2.2.2.1 bt153.2.2.2.2.1 bt153.2.2.2.2.2.1 bt153.2.2.2.2.2.2.1 bt153.2.2.2.2.2.2.2.1 bt153.2.2.2.2.2.2.2.2.1 bt153.2.2.2.2.2.2.2.2.2.1 bt153.2.2.2.2.2.2.2.2.2.2.1))) = some r := H
 have A6 := Aside0.mk A60
 clear A60
 replace H := Option.bind_eq_some_iff.mp H
 obtain ⟨⟨t153, t154, t155, t156, t157, t158, t159, t160, t161, t162, t163, t164⟩, A70, H⟩ := H
 replace H : (if ((!(t127 == t140) || (!(t128 == t141) || (!(t129 == t142)))) || ((!(t130 == t143) || (!(t131 == t144) || (!(t132 == t145) || (!(t133 == t146) || (!(t134 == t147) || (!(t135 == t148) || (!(t136 == t149)))))))) || (!(t137 == t150)))) = true then (drachmlaw04_WorthBack.j0 k t102 t138 t164 true t103 t104 t105 t106 t107 t108 t109 t110 t111 t112 t113 t115 t116 t117 t118 t119 t120 t121 t122 t123 t124 t125 t127 t128 t129 t130 t131 t132 t133 t134 t135 t136 t137 t153 t154 t155 t156 t157 t158 t159 t160 t161 t162 t163) else (drachmlaw04_WorthBack.j0 k t102 t138 t164 (t138 != t151) t103 t104 t105 t106 t107 t108 t109 t110 t111 t112 t113 t115 t116 t117 t118 t119 t120 t121 t122 t123 t124 t125 t127 t128 t129 t130 t131 t132 t133 t134 t135 t136 t137 t153 t154 t155 t156 t157 t158 t159 t160 t161 t162 t163)) = some r := H
 have A7 := Aside0.mk A70
 clear A70
 have HC8 := Aside0.mk H
 clear H
 go_enter Tryd.func5, Tryd.ntmps5
 go_upto_region 9 with (first | ((with_reducible refine gate_dst (N := 1) rfl ?_); refine box_event ?hg (N := 1) ?hd (cs := #[.int .i64 a0_0, .int .i64 a0_1, .int .i64 a0_2, .int .i64 a0_3, .int .i64 a0_4, .int .i64 a0_5, .int .i64 a0_6, .int .i64 a0_7, .int .i64 a0_8, .int .i64 a0_9, .int .i64 a0_10, .int .i64 a0_11, .int .i64 a0_12, .int .i64 a0_13, .int .i64 a0_14, .int .i64 a0_15, .int .i64 a0_16, .int .i64 a0_17, .int .i64 a0_18, .int .i64 a0_19, .int .i64 a0_20, .int .i64 a0_21]) (t := 26) ?hr ?_; (case hd => rfl); (case hg => rfl); (case hr => first | (go_simp; done) | (go_simp; rfl)); intro gb101 hg w9 hbox hb; have n0_ := sb HB hb; have n1_ := Aside0.mk (hbox); have n2_ := Aside0.mk ((by rw [hg]; exact (below_size (bl HB.out)) : w.heap.size ≤ gb101)); have n3_ := Aside0.mk ((by rw [hg]; exact (below_size (bl HB.out)) : w.heap.size ≤ gb101)); clear HB; have HB := n0_; have BK101 := n1_; have GW101 := n2_; have GE101 := n3_; clear n0_ n1_ n2_ n3_; clear hb hbox hg) | (go_at_call 9; (with_reducible refine (drachmlaw04_awake.calls k  t102 _ (Glob.use hG (by decide) (bl HB.out)) A2.out).mono ?_); rintro e w10 ⟨rfl, hb⟩; replace BK101 := kb BK101 hb; replace HB := sb HB hb; (try clear hb); (try clear hb2); (try clear hk); (try clear hi); have hcz11_0 : w10.cell? ⟨gb101, 0, none⟩ = some (.int .i64 a0_0) := (blk_cell BK101.out 0).trans rfl; have hcz11_1 : w10.cell? ⟨gb101, 1, none⟩ = some (.int .i64 a0_1) := (blk_cell BK101.out 1).trans rfl; have hcz11_2 : w10.cell? ⟨gb101, 2, none⟩ = some (.int .i64 a0_2) := (blk_cell BK101.out 2).trans rfl; have hcz11_3 : w10.cell? ⟨gb101, 3, none⟩ = some (.int .i64 a0_3) := (blk_cell BK101.out 3).trans rfl; have hcz11_4 : w10.cell? ⟨gb101, 4, none⟩ = some (.int .i64 a0_4) := (blk_cell BK101.out 4).trans rfl; have hcz11_5 : w10.cell? ⟨gb101, 5, none⟩ = some (.int .i64 a0_5) := (blk_cell BK101.out 5).trans rfl; have hcz11_6 : w10.cell? ⟨gb101, 6, none⟩ = some (.int .i64 a0_6) := (blk_cell BK101.out 6).trans rfl; have hcz11_7 : w10.cell? ⟨gb101, 7, none⟩ = some (.int .i64 a0_7) := (blk_cell BK101.out 7).trans rfl; have hcz11_8 : w10.cell? ⟨gb101, 8, none⟩ = some (.int .i64 a0_8) := (blk_cell BK101.out 8).trans rfl; have hcz11_9 : w10.cell? ⟨gb101, 9, none⟩ = some (.int .i64 a0_9) := (blk_cell BK101.out 9).trans rfl; have hcz11_10 : w10.cell? ⟨gb101, 10, none⟩ = some (.int .i64 a0_10) := (blk_cell BK101.out 10).trans rfl; have hcz11_11 : w10.cell? ⟨gb101, 11, none⟩ = some (.int .i64 a0_11) := (blk_cell BK101.out 11).trans rfl; have hcz11_12 : w10.cell? ⟨gb101, 12, none⟩ = some (.int .i64 a0_12) := (blk_cell BK101.out 12).trans rfl; have hcz11_13 : w10.cell? ⟨gb101, 13, none⟩ = some (.int .i64 a0_13) := (blk_cell BK101.out 13).trans rfl; have hcz11_14 : w10.cell? ⟨gb101, 14, none⟩ = some (.int .i64 a0_14) := (blk_cell BK101.out 14).trans rfl; have hcz11_15 : w10.cell? ⟨gb101, 15, none⟩ = some (.int .i64 a0_15) := (blk_cell BK101.out 15).trans rfl; have hcz11_16 : w10.cell? ⟨gb101, 16, none⟩ = some (.int .i64 a0_16) := (blk_cell BK101.out 16).trans rfl; have hcz11_17 : w10.cell? ⟨gb101, 17, none⟩ = some (.int .i64 a0_17) := (blk_cell BK101.out 17).trans rfl; have hcz11_18 : w10.cell? ⟨gb101, 18, none⟩ = some (.int .i64 a0_18) := (blk_cell BK101.out 18).trans rfl; have hcz11_19 : w10.cell? ⟨gb101, 19, none⟩ = some (.int .i64 a0_19) := (blk_cell BK101.out 19).trans rfl; have hcz11_20 : w10.cell? ⟨gb101, 20, none⟩ = some (.int .i64 a0_20) := (blk_cell BK101.out 20).trans rfl; have hcz11_21 : w10.cell? ⟨gb101, 21, none⟩ = some (.int .i64 a0_21) := (blk_cell BK101.out 21).trans rfl; have hfz11_0 := blk_frozen BK101.out 0; have hfz11_1 := blk_frozen BK101.out 1; have hfz11_2 := blk_frozen BK101.out 2; have hfz11_3 := blk_frozen BK101.out 3; have hfz11_4 := blk_frozen BK101.out 4; have hfz11_5 := blk_frozen BK101.out 5; have hfz11_6 := blk_frozen BK101.out 6; have hfz11_7 := blk_frozen BK101.out 7; have hfz11_8 := blk_frozen BK101.out 8; have hfz11_9 := blk_frozen BK101.out 9; have hfz11_10 := blk_frozen BK101.out 10; have hfz11_11 := blk_frozen BK101.out 11; have hfz11_12 := blk_frozen BK101.out 12; have hfz11_13 := blk_frozen BK101.out 13; have hfz11_14 := blk_frozen BK101.out 14; have hfz11_15 := blk_frozen BK101.out 15; have hfz11_16 := blk_frozen BK101.out 16; have hfz11_17 := blk_frozen BK101.out 17; have hfz11_18 := blk_frozen BK101.out 18; have hfz11_19 := blk_frozen BK101.out 19; have hfz11_20 := blk_frozen BK101.out 20; have hfz11_21 := blk_frozen BK101.out 21) | (go_at_call 10; (with_reducible refine (drachmref04_Spec_Worth.calls k a0_0 a0_1 a0_2 a0_3 a0_4 a0_5 a0_6 a0_7 a0_8 a0_9 0 t103 t104 t105 t106 t107 t108 t109 t110 t111 t112 t113 _ A3.out).mono ?_); rintro e w12 ⟨rfl, hb⟩; have n0_ := Aside0.mk (blk_below (g := gb101) (o := .cells #[.int .i64 a0_0, .int .i64 a0_1, .int .i64 a0_2, .int .i64 a0_3, .int .i64 a0_4, .int .i64 a0_5, .int .i64 a0_6, .int .i64 a0_7, .int .i64 a0_8, .int .i64 a0_9, .int .i64 0, .int .i64 a0_11, .int .i64 a0_12, .int .i64 a0_13, .int .i64 a0_14, .int .i64 a0_15, .int .i64 a0_16, .int .i64 a0_17, .int .i64 a0_18, .int .i64 a0_19, .int .i64 a0_20, .int .i64 0] 26 (0, 0)) (by (with_reducible repeat (first | refine blk_drewN ?_ _ | refine blk_drew ?_ | refine blk_alloc ?_ _)); refine blk_put (cs := #[.int .i64 a0_0, .int .i64 a0_1, .int .i64 a0_2, .int .i64 a0_3, .int .i64 a0_4, .int .i64 a0_5, .int .i64 a0_6, .int .i64 a0_7, .int .i64 a0_8, .int .i64 a0_9, .int .i64 0, .int .i64 a0_11, .int .i64 a0_12, .int .i64 a0_13, .int .i64 a0_14, .int .i64 a0_15, .int .i64 a0_16, .int .i64 a0_17, .int .i64 a0_18, .int .i64 a0_19, .int .i64 a0_20, .int .i64 a0_21]) ?_ 21 _ rfl; (with_reducible repeat (first | refine blk_drewN ?_ _ | refine blk_drew ?_ | refine blk_alloc ?_ _)); refine blk_put (cs := #[.int .i64 a0_0, .int .i64 a0_1, .int .i64 a0_2, .int .i64 a0_3, .int .i64 a0_4, .int .i64 a0_5, .int .i64 a0_6, .int .i64 a0_7, .int .i64 a0_8, .int .i64 a0_9, .int .i64 a0_10, .int .i64 a0_11, .int .i64 a0_12, .int .i64 a0_13, .int .i64 a0_14, .int .i64 a0_15, .int .i64 a0_16, .int .i64 a0_17, .int .i64 a0_18, .int .i64 a0_19, .int .i64 a0_20, .int .i64 a0_21]) ?_ 10 _ rfl; (with_reducible repeat (first | refine blk_drewN ?_ _ | refine blk_drew ?_ | refine blk_alloc ?_ _)); exact BK101.out) hb); have n1_ := sb HB hb; clear BK101; clear HB; have BK101 := n0_; have HB := n1_; clear n0_ n1_; (try clear hb); (try clear hb2); (try clear hk); (try clear hi)) | ((with_reducible refine gate_dst (N := 4) rfl ?_); refine box_event ?hg (N := 4) ?hd (cs := #[.int .i64 0, .int .i64 0, .int .i64 0, .int .i64 0, .int .i64 0, .int .i64 0, .int .i64 0, .int .i64 0, .int .i64 0, .int .i64 0, .int .i64 0]) (t := 31) ?hr ?_; (case hd => rfl); (case hg => rfl); (case hr => first | (go_simp; done) | (go_simp; rfl)); intro gb114 hg w13 hbox hb; have n0_ := kb BK101 hb; have n1_ := sb HB hb; have n2_ := Aside0.mk (hbox); have n3_ := Aside0.mk ((by rw [hg]; exact (below_size (bl HB.out)) : w.heap.size ≤ gb114)); have n4_ := Aside0.mk ((by rw [hg]; exact (below_size (bl HB.out)) : w.heap.size ≤ gb114)); have n5_ := Aside0.mk ((by rw [hg]; exact Nat.ne_of_lt (blk_lt (kp BK101.out)) : gb101 ≠ gb114)); have n6_ := Aside0.mk ((by rw [hg]; exact Nat.ne_of_gt (blk_lt (kp BK101.out)) : gb114 ≠ gb101)); clear BK101; clear HB; have BK101 := n0_; have HB := n1_; have BK114 := n2_; have GW114 := n3_; have GE114 := n4_; have NB101_114 := n5_; have NB114_101 := n6_; clear n0_ n1_ n2_ n3_ n4_ n5_ n6_; clear hb hbox hg; have hnb14 := NB114_101.out; have hnc14 := NB101_114.out; obtain ⟨hcz15_0, hcz15_1, hcz15_2, hcz15_3, hcz15_4, hcz15_5, hcz15_6, hcz15_7, hcz15_8, hcz15_9, hcz15_10⟩ := hc11 BK114.out; obtain ⟨hfz15_0, hfz15_1, hfz15_2, hfz15_3, hfz15_4, hfz15_5, hfz15_6, hfz15_7, hfz15_8, hfz15_9, hfz15_10⟩ := hf11 BK114.out; have hcz16_0 : w13.cell? ⟨gb101, 0, none⟩ = some (.int .i64 a0_0) := (blk_cell BK101.out 0).trans rfl; have hcz16_1 : w13.cell? ⟨gb101, 1, none⟩ = some (.int .i64 a0_1) := (blk_cell BK101.out 1).trans rfl; have hcz16_2 : w13.cell? ⟨gb101, 2, none⟩ = some (.int .i64 a0_2) := (blk_cell BK101.out 2).trans rfl; have hcz16_3 : w13.cell? ⟨gb101, 3, none⟩ = some (.int .i64 a0_3) := (blk_cell BK101.out 3).trans rfl; have hcz16_4 : w13.cell? ⟨gb101, 4, none⟩ = some (.int .i64 a0_4) := (blk_cell BK101.out 4).trans rfl; have hcz16_5 : w13.cell? ⟨gb101, 5, none⟩ = some (.int .i64 a0_5) := (blk_cell BK101.out 5).trans rfl; have hcz16_6 : w13.cell? ⟨gb101, 6, none⟩ = some (.int .i64 a0_6) := (blk_cell BK101.out 6).trans rfl; have hcz16_7 : w13.cell? ⟨gb101, 7, none⟩ = some (.int .i64 a0_7) := (blk_cell BK101.out 7).trans rfl; have hcz16_8 : w13.cell? ⟨gb101, 8, none⟩ = some (.int .i64 a0_8) := (blk_cell BK101.out 8).trans rfl; have hcz16_9 : w13.cell? ⟨gb101, 9, none⟩ = some (.int .i64 a0_9) := (blk_cell BK101.out 9).trans rfl; have hcz16_10 : w13.cell? ⟨gb101, 10, none⟩ = some (.int .i64 0) := (blk_cell BK101.out 10).trans rfl; have hcz16_11 : w13.cell? ⟨gb101, 11, none⟩ = some (.int .i64 a0_11) := (blk_cell BK101.out 11).trans rfl; have hcz16_12 : w13.cell? ⟨gb101, 12, none⟩ = some (.int .i64 a0_12) := (blk_cell BK101.out 12).trans rfl; have hcz16_13 : w13.cell? ⟨gb101, 13, none⟩ = some (.int .i64 a0_13) := (blk_cell BK101.out 13).trans rfl; have hcz16_14 : w13.cell? ⟨gb101, 14, none⟩ = some (.int .i64 a0_14) := (blk_cell BK101.out 14).trans rfl; have hcz16_15 : w13.cell? ⟨gb101, 15, none⟩ = some (.int .i64 a0_15) := (blk_cell BK101.out 15).trans rfl; have hcz16_16 : w13.cell? ⟨gb101, 16, none⟩ = some (.int .i64 a0_16) := (blk_cell BK101.out 16).trans rfl; have hcz16_17 : w13.cell? ⟨gb101, 17, none⟩ = some (.int .i64 a0_17) := (blk_cell BK101.out 17).trans rfl; have hcz16_18 : w13.cell? ⟨gb101, 18, none⟩ = some (.int .i64 a0_18) := (blk_cell BK101.out 18).trans rfl; have hcz16_19 : w13.cell? ⟨gb101, 19, none⟩ = some (.int .i64 a0_19) := (blk_cell BK101.out 19).trans rfl; have hcz16_20 : w13.cell? ⟨gb101, 20, none⟩ = some (.int .i64 a0_20) := (blk_cell BK101.out 20).trans rfl; have hcz16_21 : w13.cell? ⟨gb101, 21, none⟩ = some (.int .i64 0) := (blk_cell BK101.out 21).trans rfl; have hfz16_0 := blk_frozen BK101.out 0; have hfz16_1 := blk_frozen BK101.out 1; have hfz16_2 := blk_frozen BK101.out 2; have hfz16_3 := blk_frozen BK101.out 3; have hfz16_4 := blk_frozen BK101.out 4; have hfz16_5 := blk_frozen BK101.out 5; have hfz16_6 := blk_frozen BK101.out 6; have hfz16_7 := blk_frozen BK101.out 7; have hfz16_8 := blk_frozen BK101.out 8; have hfz16_9 := blk_frozen BK101.out 9; have hfz16_10 := blk_frozen BK101.out 10; have hfz16_11 := blk_frozen BK101.out 11; have hfz16_12 := blk_frozen BK101.out 12; have hfz16_13 := blk_frozen BK101.out 13; have hfz16_14 := blk_frozen BK101.out 14; have hfz16_15 := blk_frozen BK101.out 15; have hfz16_16 := blk_frozen BK101.out 16; have hfz16_17 := blk_frozen BK101.out 17; have hfz16_18 := blk_frozen BK101.out 18; have hfz16_19 := blk_frozen BK101.out 19; have hfz16_20 := blk_frozen BK101.out 20; have hfz16_21 := blk_frozen BK101.out 21) | (go_at_call 10; (with_reducible refine (drachmref04_Spec_Worth.calls k a0_11 a0_12 a0_13 a0_14 a0_15 a0_16 a0_17 a0_18 a0_19 a0_20 0 t115 t116 t117 t118 t119 t120 t121 t122 t123 t124 t125 _ A4.out).mono ?_); rintro e w17 ⟨rfl, hb⟩; replace BK101 := kb BK101 hb; replace BK114 := Aside0.mk (blk_below (kp (p11_10 (kp (p11_9 (kp (p11_8 (kp (p11_7 (kp (p11_6 (kp (p11_5 (kp (p11_4 (kp (p11_3 (kp (p11_2 (kp (p11_1 (kp (p11_0 (kp BK114.out))))))))))))))))))))))) hb); replace HB := sb HB hb; (try clear hb); (try clear hb2); (try clear hk); (try clear hi)) | ((with_reducible refine gate_dst (N := 5) rfl ?_); refine box_event ?hg (N := 5) ?hd (cs := #[.int .i64 0, .int .i64 0, .int .i64 0, .int .i64 0, .int .i64 0, .int .i64 0, .int .i64 0, .int .i64 0, .int .i64 0, .int .i64 0, .int .i64 0]) (t := 31) ?hr ?_; (case hd => rfl); (case hg => rfl); (case hr => first | (go_simp; done) | (go_simp; rfl)); intro gb126 hg w18 hbox hb; have n0_ := kb BK101 hb; have n1_ := kb BK114 hb; have n2_ := sb HB hb; have n3_ := Aside0.mk (hbox); have n4_ := Aside0.mk ((by rw [hg]; exact (below_size (bl HB.out)) : w.heap.size ≤ gb126)); have n5_ := Aside0.mk ((by rw [hg]; exact (below_size (bl HB.out)) : w.heap.size ≤ gb126)); have n6_ := Aside0.mk ((by rw [hg]; exact Nat.ne_of_lt (blk_lt (kp BK101.out)) : gb101 ≠ gb126)); have n7_ := Aside0.mk ((by rw [hg]; exact Nat.ne_of_gt (blk_lt (kp BK101.out)) : gb126 ≠ gb101)); have n8_ := Aside0.mk ((by rw [hg]; exact Nat.ne_of_lt (blk_lt (kp BK114.out)) : gb114 ≠ gb126)); have n9_ := Aside0.mk ((by rw [hg]; exact Nat.ne_of_gt (blk_lt (kp BK114.out)) : gb126 ≠ gb114)); clear BK101; clear BK114; clear HB; have BK101 := n0_; have BK114 := n1_; have HB := n2_; have BK126 := n3_; have GW126 := n4_; have GE126 := n5_; have NB101_126 := n6_; have NB126_101 := n7_; have NB114_126 := n8_; have NB126_114 := n9_; clear n0_ n1_ n2_ n3_ n4_ n5_ n6_ n7_ n8_ n9_; clear hb hbox hg; have hnb19 := NB126_101.out; have hnc19 := NB101_126.out; have hnb20 := NB126_114.out; have hnc20 := NB114_126.out; obtain ⟨hcz21_0, hcz21_1, hcz21_2, hcz21_3, hcz21_4, hcz21_5, hcz21_6, hcz21_7, hcz21_8, hcz21_9, hcz21_10⟩ := hc11 BK126.out; obtain ⟨hfz21_0, hfz21_1, hfz21_2, hfz21_3, hfz21_4, hfz21_5, hfz21_6, hfz21_7, hfz21_8, hfz21_9, hfz21_10⟩ := hf11 BK126.out; obtain ⟨hcz22_0, hcz22_1, hcz22_2, hcz22_3, hcz22_4, hcz22_5, hcz22_6, hcz22_7, hcz22_8, hcz22_9, hcz22_10⟩ := hc11 BK114.out; obtain ⟨hfz22_0, hfz22_1, hfz22_2, hfz22_3, hfz22_4, hfz22_5, hfz22_6, hfz22_7, hfz22_8, hfz22_9, hfz22_10⟩ := hf11 BK114.out) | (go_at_call 13; (with_reducible refine (worth_Mul.calls k t103 t104 t105 t106 t107 t108 t109 t110 t111 t112 t113 t115 t116 t117 t118 t119 t120 t121 t122 t123 t124 t125 t127 t128 t129 t130 t131 t132 t133 t134 t135 t136 t137 t138 _ (Glob.use hG (by decide) (bl HB.out)) A5.out).mono ?_); rintro e w23 ⟨rfl, hb⟩; replace BK101 := kb BK101 hb; replace BK114 := kb BK114 hb; replace BK126 := Aside0.mk (blk_below (kp (p11_10 (kp (p11_9 (kp (p11_8 (kp (p11_7 (kp (p11_6 (kp (p11_5 (kp (p11_4 (kp (p11_3 (kp (p11_2 (kp (p11_1 (kp (p11_0 (kp BK126.out))))))))))))))))))))))) hb); replace HB := sb HB hb; (try clear hb); (try clear hb2); (try clear hk); (try clear hi)) | ((with_reducible refine gate_dst (N := 6) rfl ?_); refine box_event ?hg (N := 6) ?hd (cs := #[.int .i64 0, .int .i64 0, .int .i64 0, .int .i64 0, .int .i64 0, .int .i64 0, .int .i64 0, .int .i64 0, .int .i64 0, .int .i64 0, .int .i64 0]) (t := 31) ?hr ?_; (case hd => rfl); (case hg => rfl); (case hr => first | (go_simp; done) | (go_simp; rfl)); intro gb139 hg w24 hbox hb; have n0_ := kb BK101 hb; have n1_ := kb BK114 hb; have n2_ := kb BK126 hb; have n3_ := sb HB hb; have n4_ := Aside0.mk (hbox); have n5_ := Aside0.mk ((by rw [hg]; exact (below_size (bl HB.out)) : w.heap.size ≤ gb139)); have n6_ := Aside0.mk ((by rw [hg]; exact (below_size (bl HB.out)) : w.heap.size ≤ gb139)); have n7_ := Aside0.mk ((by rw [hg]; exact Nat.ne_of_lt (blk_lt (kp BK101.out)) : gb101 ≠ gb139)); have n8_ := Aside0.mk ((by rw [hg]; exact Nat.ne_of_gt (blk_lt (kp BK101.out)) : gb139 ≠ gb101)); have n9_ := Aside0.mk ((by rw [hg]; exact Nat.ne_of_lt (blk_lt (kp BK114.out)) : gb114 ≠ gb139)); have n10_ := Aside0.mk ((by rw [hg]; exact Nat.ne_of_gt (blk_lt (kp BK114.out)) : gb139 ≠ gb114)); have n11_ := Aside0.mk ((by rw [hg]; exact Nat.ne_of_lt (blk_lt (kp BK126.out)) : gb126 ≠ gb139)); have n12_ := Aside0.mk ((by rw [hg]; exact Nat.ne_of_gt (blk_lt (kp BK126.out)) : gb139 ≠ gb126)); clear BK101; clear BK114; clear BK126; clear HB; have BK101 := n0_; have BK114 := n1_; have BK126 := n2_; have HB := n3_; have BK139 := n4_; have GW139 := n5_; have GE139 := n6_; have NB101_139 := n7_; have NB139_101 := n8_; have NB114_139 := n9_; have NB139_114 := n10_; have NB126_139 := n11_; have NB139_126 := n12_; clear n0_ n1_ n2_ n3_ n4_ n5_ n6_ n7_ n8_ n9_ n10_ n11_ n12_; clear hb hbox hg; have hnb25 := NB139_101.out; have hnc25 := NB101_139.out; have hnb26 := NB139_114.out; have hnc26 := NB114_139.out; have hnb27 := NB139_126.out; have hnc27 := NB126_139.out; obtain ⟨hcz28_0, hcz28_1, hcz28_2, hcz28_3, hcz28_4, hcz28_5, hcz28_6, hcz28_7, hcz28_8, hcz28_9, hcz28_10⟩ := hc11 BK139.out; obtain ⟨hfz28_0, hfz28_1, hfz28_2, hfz28_3, hfz28_4, hfz28_5, hfz28_6, hfz28_7, hfz28_8, hfz28_9, hfz28_10⟩ := hf11 BK139.out; obtain ⟨hcz29_0, hcz29_1, hcz29_2, hcz29_3, hcz29_4, hcz29_5, hcz29_6, hcz29_7, hcz29_8, hcz29_9, hcz29_10⟩ := hc11 BK126.out; obtain ⟨hfz29_0, hfz29_1, hfz29_2, hfz29_3, hfz29_4, hfz29_5, hfz29_6, hfz29_7, hfz29_8, hfz29_9, hfz29_10⟩ := hf11 BK126.out; obtain ⟨hcz30_0, hcz30_1, hcz30_2, hcz30_3, hcz30_4, hcz30_5, hcz30_6, hcz30_7, hcz30_8, hcz30_9, hcz30_10⟩ := hc11 BK114.out; obtain ⟨hfz30_0, hfz30_1, hfz30_2, hfz30_3, hfz30_4, hfz30_5, hfz30_6, hfz30_7, hfz30_8, hfz30_9, hfz30_10⟩ := hf11 BK114.out) | (go_at_call 13; (with_reducible refine (worth_Mul.calls k t115 t116 t117 t118 t119 t120 t121 t122 t123 t124 t125 t103 t104 t105 t106 t107 t108 t109 t110 t111 t112 t113 t140 t141 t142 t143 t144 t145 t146 t147 t148 t149 t150 t151 _ (Glob.use hG (by decide) (bl HB.out)) A6.out).mono ?_); rintro e w31 ⟨rfl, hb⟩; replace BK101 := kb BK101 hb; replace BK114 := kb BK114 hb; replace BK126 := kb BK126 hb; replace BK139 := Aside0.mk (blk_below (kp (p11_10 (kp (p11_9 (kp (p11_8 (kp (p11_7 (kp (p11_6 (kp (p11_5 (kp (p11_4 (kp (p11_3 (kp (p11_2 (kp (p11_1 (kp (p11_0 (kp BK139.out))))))))))))))))))))))) hb); replace HB := sb HB hb; (try clear hb); (try clear hb2); (try clear hk); (try clear hi)) | ((with_reducible refine gate_dst (N := 8) rfl ?_); refine box_event ?hg (N := 8) ?hd (cs := #[.int .i64 0, .int .i64 0, .int .i64 0, .int .i64 0, .int .i64 0, .int .i64 0, .int .i64 0, .int .i64 0, .int .i64 0, .int .i64 0, .int .i64 0]) (t := 31) ?hr ?_; (case hd => rfl); (case hg => rfl); (case hr => first | (go_simp; done) | (go_simp; rfl)); intro gb152 hg w32 hbox hb; have n0_ := kb BK101 hb; have n1_ := kb BK114 hb; have n2_ := kb BK126 hb; have n3_ := kb BK139 hb; have n4_ := sb HB hb; have n5_ := Aside0.mk (hbox); have n6_ := Aside0.mk ((by rw [hg]; exact (below_size (bl HB.out)) : w.heap.size ≤ gb152)); have n7_ := Aside0.mk ((by rw [hg]; exact (below_size (bl HB.out)) : w.heap.size ≤ gb152)); have n8_ := Aside0.mk ((by rw [hg]; exact Nat.ne_of_lt (blk_lt (kp BK101.out)) : gb101 ≠ gb152)); have n9_ := Aside0.mk ((by rw [hg]; exact Nat.ne_of_gt (blk_lt (kp BK101.out)) : gb152 ≠ gb101)); have n10_ := Aside0.mk ((by rw [hg]; exact Nat.ne_of_lt (blk_lt (kp BK114.out)) : gb114 ≠ gb152)); have n11_ := Aside0.mk ((by rw [hg]; exact Nat.ne_of_gt (blk_lt (kp BK114.out)) : gb152 ≠ gb114)); have n12_ := Aside0.mk ((by rw [hg]; exact Nat.ne_of_lt (blk_lt (kp BK126.out)) : gb126 ≠ gb152)); have n13_ := Aside0.mk ((by rw [hg]; exact Nat.ne_of_gt (blk_lt (kp BK126.out)) : gb152 ≠ gb126)); have n14_ := Aside0.mk ((by rw [hg]; exact Nat.ne_of_lt (blk_lt (kp BK139.out)) : gb139 ≠ gb152)); have n15_ := Aside0.mk ((by rw [hg]; exact Nat.ne_of_gt (blk_lt (kp BK139.out)) : gb152 ≠ gb139)); clear BK101; clear BK114; clear BK126; clear BK139; clear HB; have BK101 := n0_; have BK114 := n1_; have BK126 := n2_; have BK139 := n3_; have HB := n4_; have BK152 := n5_; have GW152 := n6_; have GE152 := n7_; have NB101_152 := n8_; have NB152_101 := n9_; have NB114_152 := n10_; have NB152_114 := n11_; have NB126_152 := n12_; have NB152_126 := n13_; have NB139_152 := n14_; have NB152_139 := n15_; clear n0_ n1_ n2_ n3_ n4_ n5_ n6_ n7_ n8_ n9_ n10_ n11_ n12_ n13_ n14_ n15_; clear hb hbox hg; have hnb33 := NB152_101.out; have hnc33 := NB101_152.out; have hnb34 := NB152_114.out; have hnc34 := NB114_152.out; have hnb35 := NB152_126.out; have hnc35 := NB126_152.out; have hnb36 := NB152_139.out; have hnc36 := NB139_152.out; obtain ⟨hcz37_0, hcz37_1, hcz37_2, hcz37_3, hcz37_4, hcz37_5, hcz37_6, hcz37_7, hcz37_8, hcz37_9, hcz37_10⟩ := hc11 BK152.out; obtain ⟨hfz37_0, hfz37_1, hfz37_2, hfz37_3, hfz37_4, hfz37_5, hfz37_6, hfz37_7, hfz37_8, hfz37_9, hfz37_10⟩ := hf11 BK152.out; obtain ⟨hcz38_0, hcz38_1, hcz38_2, hcz38_3, hcz38_4, hcz38_5, hcz38_6, hcz38_7, hcz38_8, hcz38_9, hcz38_10⟩ := hc11 BK126.out; obtain ⟨hfz38_0, hfz38_1, hfz38_2, hfz38_3, hfz38_4, hfz38_5, hfz38_6, hfz38_7, hfz38_8, hfz38_9, hfz38_10⟩ := hf11 BK126.out) | (go_at_call 14; (with_reducible refine (worth_Div.calls k t115 t116 t117 t118 t119 t120 t121 t122 t123 t124 t125 t115 t116 t117 t118 t119 t120 t121 t122 t123 t124 t125 t153 t154 t155 t156 t157 t158 t159 t160 t161 t162 t163 t164 _ (Glob.use hG (by decide) (bl HB.out)) A7.out).mono ?_); rintro e w39 ⟨rfl, hb⟩; replace BK101 := kb BK101 hb; replace BK114 := kb BK114 hb; replace BK126 := kb BK126 hb; replace BK139 := kb BK139 hb; replace BK152 := Aside0.mk (blk_below (kp (p11_10 (kp (p11_9 (kp (p11_8 (kp (p11_7 (kp (p11_6 (kp (p11_5 (kp (p11_4 (kp (p11_3 (kp (p11_2 (kp (p11_1 (kp (p11_0 (kp BK152.out))))))))))))))))))))))) hb); replace HB := sb HB hb; (try clear hb); (try clear hb2); (try clear hk); (try clear hi)) | ((with_reducible refine gate_dst (N := 10) rfl ?_); refine box_event ?hg (N := 10) ?hd (cs := #[.int .i64 0, .int .i64 0, .int .i64 0, .int .i64 0, .int .i64 0, .int .i64 0, .int .i64 0, .int .i64 0, .int .i64 0, .int .i64 0, .int .i64 0]) (t := 31) ?hr ?_; (case hd => rfl); (case hg => rfl); (case hr => first | (go_simp; done) | (go_simp; rfl)); intro gb165 hg w40 hbox hb; have n0_ := kb BK101 hb; have n1_ := kb BK114 hb; have n2_ := kb BK126 hb; have n3_ := kb BK139 hb; have n4_ := kb BK152 hb; have n5_ := sb HB hb; have n6_ := Aside0.mk (hbox); have n7_ := Aside0.mk ((by rw [hg]; exact (below_size (bl HB.out)) : w.heap.size ≤ gb165)); have n8_ := Aside0.mk ((by rw [hg]; exact (below_size (bl HB.out)) : w.heap.size ≤ gb165)); have n9_ := Aside0.mk ((by rw [hg]; exact Nat.ne_of_lt (blk_lt (kp BK101.out)) : gb101 ≠ gb165)); have n10_ := Aside0.mk ((by rw [hg]; exact Nat.ne_of_gt (blk_lt (kp BK101.out)) : gb165 ≠ gb101)); have n11_ := Aside0.mk ((by rw [hg]; exact Nat.ne_of_lt (blk_lt (kp BK114.out)) : gb114 ≠ gb165)); have n12_ := Aside0.mk ((by rw [hg]; exact Nat.ne_of_gt (blk_lt (kp BK114.out)) : gb165 ≠ gb114)); have n13_ := Aside0.mk ((by rw [hg]; exact Nat.ne_of_lt (blk_lt (kp BK126.out)) : gb126 ≠ gb165)); have n14_ := Aside0.mk ((by rw [hg]; exact Nat.ne_of_gt (blk_lt (kp BK126.out)) : gb165 ≠ gb126)); have n15_ := Aside0.mk ((by rw [hg]; exact Nat.ne_of_lt (blk_lt (kp BK139.out)) : gb139 ≠ gb165)); have n16_ := Aside0.mk ((by rw [hg]; exact Nat.ne_of_gt (blk_lt (kp BK139.out)) : gb165 ≠ gb139)); have n17_ := Aside0.mk ((by rw [hg]; exact Nat.ne_of_lt (blk_lt (kp BK152.out)) : gb152 ≠ gb165)); have n18_ := Aside0.mk ((by rw [hg]; exact Nat.ne_of_gt (blk_lt (kp BK152.out)) : gb165 ≠ gb152)); clear BK101; clear BK114; clear BK126; clear BK139; clear BK152; clear HB; have BK101 := n0_; have BK114 := n1_; have BK126 := n2_; have BK139 := n3_; have BK152 := n4_; have HB := n5_; have BK165 := n6_; have GW165 := n7_; have GE165 := n8_; have NB101_165 := n9_; have NB165_101 := n10_; have NB114_165 := n11_; have NB165_114 := n12_; have NB126_165 := n13_; have NB165_126 := n14_; have NB139_165 := n15_; have NB165_139 := n16_; have NB152_165 := n17_; have NB165_152 := n18_; clear n0_ n1_ n2_ n3_ n4_ n5_ n6_ n7_ n8_ n9_ n10_ n11_ n12_ n13_ n14_ n15_ n16_ n17_ n18_; clear hb hbox hg; have hnb41 := NB165_101.out; have hnc41 := NB101_165.out; have hnb42 := NB165_114.out; have hnc42 := NB114_165.out; have hnb43 := NB165_126.out; have hnc43 := NB126_165.out; have hnb44 := NB165_139.out; have hnc44 := NB139_165.out; have hnb45 := NB165_152.out; have hnc45 := NB152_165.out; obtain ⟨hcz46_0, hcz46_1, hcz46_2, hcz46_3, hcz46_4, hcz46_5, hcz46_6, hcz46_7, hcz46_8, hcz46_9, hcz46_10⟩ := hc11 BK165.out; obtain ⟨hfz46_0, hfz46_1, hfz46_2, hfz46_3, hfz46_4, hfz46_5, hfz46_6, hfz46_7, hfz46_8, hfz46_9, hfz46_10⟩ := hf11 BK165.out))
 (try simp only [Act.put, List.setIfInBounds_toArray, List.set_cons_zero, List.set_cons_succ])
 go_cut [52] (fun v52 wc => ∃ (kq : Nat) (x52_7 : Bool), v52 = .bool x52_7 ∧ Aside0 (drachmlaw04_WorthBack.j0 kq t102 t138 t164 x52_7 t103 t104 t105 t106 t107 t108 t109 t110 t111 t112 t113 t115 t116 t117 t118 t119 t120 t121 t122 t123 t124 t125 t127 t128 t129 t130 t131 t132 t133 t134 t135 t136 t137 t153 t154 t155 t156 t157 t158 t159 t160 t161 t162 t163 = some r) ∧ Aside0 (kq ≤ k) ∧ Aside0 (wc.heap[gb101]? = some (.cells #[.int .i64 a0_0, .int .i64 a0_1, .int .i64 a0_2, .int .i64 a0_3, .int .i64 a0_4, .int .i64 a0_5, .int .i64 a0_6, .int .i64 a0_7, .int .i64 a0_8, .int .i64 a0_9, .int .i64 0, .int .i64 a0_11, .int .i64 a0_12, .int .i64 a0_13, .int .i64 a0_14, .int .i64 a0_15, .int .i64 a0_16, .int .i64 a0_17, .int .i64 a0_18, .int .i64 a0_19, .int .i64 a0_20, .int .i64 0] 26 (0, 0))) ∧ Aside0 (wc.heap[gb114]? = some (.cells #[.int .i64 t103, .int .i64 t104, .int .i64 t105, .int .i64 t106, .int .i64 t107, .int .i64 t108, .int .i64 t109, .int .i64 t110, .int .i64 t111, .int .i64 t112, .int .i64 t113] 31 (0, 0))) ∧ Aside0 (wc.heap[gb126]? = some (.cells #[.int .i64 t115, .int .i64 t116, .int .i64 t117, .int .i64 t118, .int .i64 t119, .int .i64 t120, .int .i64 t121, .int .i64 t122, .int .i64 t123, .int .i64 t124, .int .i64 t125] 31 (0, 0))) ∧ Aside0 (wc.heap[gb139]? = some (.cells #[.int .i64 t127, .int .i64 t128, .int .i64 t129, .int .i64 t130, .int .i64 t131, .int .i64 t132, .int .i64 t133, .int .i64 t134, .int .i64 t135, .int .i64 t136, .int .i64 t137] 31 (0, 0))) ∧ Aside0 (wc.heap[gb152]? = some (.cells #[.int .i64 t140, .int .i64 t141, .int .i64 t142, .int .i64 t143, .int .i64 t144, .int .i64 t145, .int .i64 t146, .int .i64 t147, .int .i64 t148, .int .i64 t149, .int .i64 t150] 31 (0, 0))) ∧ Aside0 (wc.heap[gb165]? = some (.cells #[.int .i64 t153, .int .i64 t154, .int .i64 t155, .int .i64 t156, .int .i64 t157, .int .i64 t158, .int .i64 t159, .int .i64 t160, .int .i64 t161, .int .i64 t162, .int .i64 t163] 31 (0, 0))) ∧ Aside0 (Below w.heap.size w wc))
 case first =>
  have H := HC8.out
  clear HC8
  by_cases c47 : ((!(t127 == t140) || (!(t128 == t141) || (!(t129 == t142)))) || ((!(t130 == t143) || (!(t131 == t144) || (!(t132 == t145) || (!(t133 == t146) || (!(t134 == t147) || (!(t135 == t148) || (!(t136 == t149)))))))) || (!(t137 == t150)))) = true
  ·rw [if_pos c47] at H
   have c47b0 : ((!(t127 == t140) || (!(t128 == t141) || (!(t129 == t142)))) || ((!(t130 == t143) || (!(t131 == t144) || (!(t132 == t145) || (!(t133 == t146) || (!(t134 == t147) || (!(t135 == t148) || (!(t136 == t149)))))))) || (!(t137 == t150)))) = true := c47
   clear c47
   (first | rw [c47b0] | (simp only [i64_w, i32_w]; rw [c47b0]) | skip)
   have H' := Aside0.mk H
   clear H
   have hnb48 := NB139_101.out
   have hnc48 := NB101_139.out
   have hnb49 := NB139_114.out
   have hnc49 := NB114_139.out
   have hnb50 := NB139_126.out
   have hnc50 := NB126_139.out
   have hnb51 := NB139_152.out
   have hnc51 := NB152_139.out
   have hnb52 := NB139_165.out
   have hnc52 := NB165_139.out
   obtain ⟨hcz53_0, hcz53_1, hcz53_2, hcz53_3, hcz53_4, hcz53_5, hcz53_6, hcz53_7, hcz53_8, hcz53_9, hcz53_10⟩ := hc11 BK139.out
   obtain ⟨hfz53_0, hfz53_1, hfz53_2, hfz53_3, hfz53_4, hfz53_5, hfz53_6, hfz53_7, hfz53_8, hfz53_9, hfz53_10⟩ := hf11 BK139.out
   have hnb54 := NB152_101.out
   have hnc54 := NB101_152.out
   have hnb55 := NB152_114.out
   have hnc55 := NB114_152.out
   have hnb56 := NB152_126.out
   have hnc56 := NB126_152.out
   have hnb57 := NB152_165.out
   have hnc57 := NB165_152.out
   obtain ⟨hcz58_0, hcz58_1, hcz58_2, hcz58_3, hcz58_4, hcz58_5, hcz58_6, hcz58_7, hcz58_8, hcz58_9, hcz58_10⟩ := hc11 BK152.out
   obtain ⟨hfz58_0, hfz58_1, hfz58_2, hfz58_3, hfz58_4, hfz58_5, hfz58_6, hfz58_7, hfz58_8, hfz58_9, hfz58_10⟩ := hf11 BK152.out
   go_wp2
   go_meet
   case rel => exact ⟨_, (true), (by first | rfl | (simp; done) | (simp [*]; done)), H', ⟨by first | omega | exact Nat.le_refl _⟩, ⟨kp BK101.out⟩, ⟨kp BK114.out⟩, ⟨kp BK126.out⟩, ⟨kp BK139.out⟩, ⟨kp BK152.out⟩, ⟨kp (p11_10 (kp (p11_9 (kp (p11_8 (kp (p11_7 (kp (p11_6 (kp (p11_5 (kp (p11_4 (kp (p11_3 (kp (p11_2 (kp (p11_1 (kp (p11_0 (kp BK165.out))))))))))))))))))))))⟩, ⟨bl HB.out⟩⟩
  ·rw [if_neg c47] at H
   have c47b0 : ((!(t127 == t140) || (!(t128 == t141) || (!(t129 == t142)))) || ((!(t130 == t143) || (!(t131 == t144) || (!(t132 == t145) || (!(t133 == t146) || (!(t134 == t147) || (!(t135 == t148) || (!(t136 == t149)))))))) || (!(t137 == t150)))) = false := by simpa using c47
   clear c47
   (first | rw [c47b0] | (simp only [i64_w, i32_w]; rw [c47b0]) | skip)
   have H' := Aside0.mk H
   clear H
   have hnb59 := NB139_101.out
   have hnc59 := NB101_139.out
   have hnb60 := NB139_114.out
   have hnc60 := NB114_139.out
   have hnb61 := NB139_126.out
   have hnc61 := NB126_139.out
   have hnb62 := NB139_152.out
   have hnc62 := NB152_139.out
   have hnb63 := NB139_165.out
   have hnc63 := NB165_139.out
   obtain ⟨hcz64_0, hcz64_1, hcz64_2, hcz64_3, hcz64_4, hcz64_5, hcz64_6, hcz64_7, hcz64_8, hcz64_9, hcz64_10⟩ := hc11 BK139.out
   obtain ⟨hfz64_0, hfz64_1, hfz64_2, hfz64_3, hfz64_4, hfz64_5, hfz64_6, hfz64_7, hfz64_8, hfz64_9, hfz64_10⟩ := hf11 BK139.out
   have hnb65 := NB152_101.out
   have hnc65 := NB101_152.out
   have hnb66 := NB152_114.out
   have hnc66 := NB114_152.out
   have hnb67 := NB152_126.out
   have hnc67 := NB126_152.out
   have hnb68 := NB152_165.out
   have hnc68 := NB165_152.out
   obtain ⟨hcz69_0, hcz69_1, hcz69_2, hcz69_3, hcz69_4, hcz69_5, hcz69_6, hcz69_7, hcz69_8, hcz69_9, hcz69_10⟩ := hc11 BK152.out
   obtain ⟨hfz69_0, hfz69_1, hfz69_2, hfz69_3, hfz69_4, hfz69_5, hfz69_6, hfz69_7, hfz69_8, hfz69_9, hfz69_10⟩ := hf11 BK152.out
   go_wp2
   go_meet
   case rel => exact ⟨_, ((t138 != t151)), (by first | rfl | (simp; done) | (simp [*]; done)), H', ⟨by first | omega | exact Nat.le_refl _⟩, ⟨kp BK101.out⟩, ⟨kp BK114.out⟩, ⟨kp BK126.out⟩, ⟨kp BK139.out⟩, ⟨kp BK152.out⟩, ⟨kp (p11_10 (kp (p11_9 (kp (p11_8 (kp (p11_7 (kp (p11_6 (kp (p11_5 (kp (p11_4 (kp (p11_3 (kp (p11_2 (kp (p11_1 (kp (p11_0 (kp BK165.out))))))))))))))))))))))⟩, ⟨bl HB.out⟩⟩
 case rest =>
  clear HC8
  try clear c1
  try clear c2
  try clear p2
  try clear c3
  try clear c4
  try clear c5
  try clear c6
  try clear c9
  try clear c10
  try clear c13
  try clear c14
  try clear c19
  try clear c20
  try clear c25
  try clear c26
  try clear c27
  try clear c33
  try clear c34
  try clear c35
  try clear c36
  try clear c41
  try clear c42
  try clear c43
  try clear c44
  try clear c45
  try clear c47
  try clear c47b0
  try clear c48
  try clear c49
  try clear c50
  try clear c51
  try clear c52
  try clear c54
  try clear c55
  try clear c56
  try clear c57
  try clear c59
  try clear c60
  try clear c61
  try clear c62
  try clear c63
  try clear c65
  try clear c66
  try clear c67
  try clear c68
  try clear hcz11_0 hcz11_1 hcz11_10 hcz11_11 hcz11_12 hcz11_13 hcz11_14 hcz11_15 hcz11_16 hcz11_17 hcz11_18 hcz11_19 hcz11_2 hcz11_20 hcz11_21 hcz11_3 hcz11_4 hcz11_5 hcz11_6 hcz11_7 hcz11_8 hcz11_9
  try clear hcz15_0 hcz15_1 hcz15_10 hcz15_2 hcz15_3 hcz15_4 hcz15_5 hcz15_6 hcz15_7 hcz15_8 hcz15_9
  try clear hcz16_0 hcz16_1 hcz16_10 hcz16_11 hcz16_12 hcz16_13 hcz16_14 hcz16_15 hcz16_16 hcz16_17 hcz16_18 hcz16_19 hcz16_2 hcz16_20 hcz16_21 hcz16_3 hcz16_4 hcz16_5 hcz16_6 hcz16_7 hcz16_8 hcz16_9
  try clear hcz21_0 hcz21_1 hcz21_10 hcz21_2 hcz21_3 hcz21_4 hcz21_5 hcz21_6 hcz21_7 hcz21_8 hcz21_9
  try clear hcz22_0 hcz22_1 hcz22_10 hcz22_2 hcz22_3 hcz22_4 hcz22_5 hcz22_6 hcz22_7 hcz22_8 hcz22_9
  try clear hcz28_0 hcz28_1 hcz28_10 hcz28_2 hcz28_3 hcz28_4 hcz28_5 hcz28_6 hcz28_7 hcz28_8 hcz28_9
  try clear hcz29_0 hcz29_1 hcz29_10 hcz29_2 hcz29_3 hcz29_4 hcz29_5 hcz29_6 hcz29_7 hcz29_8 hcz29_9
  try clear hcz30_0 hcz30_1 hcz30_10 hcz30_2 hcz30_3 hcz30_4 hcz30_5 hcz30_6 hcz30_7 hcz30_8 hcz30_9
  try clear hcz37_0 hcz37_1 hcz37_10 hcz37_2 hcz37_3 hcz37_4 hcz37_5 hcz37_6 hcz37_7 hcz37_8 hcz37_9
  try clear hcz38_0 hcz38_1 hcz38_10 hcz38_2 hcz38_3 hcz38_4 hcz38_5 hcz38_6 hcz38_7 hcz38_8 hcz38_9
  try clear hcz46_0 hcz46_1 hcz46_10 hcz46_2 hcz46_3 hcz46_4 hcz46_5 hcz46_6 hcz46_7 hcz46_8 hcz46_9
  try clear hcz53_0 hcz53_1 hcz53_10 hcz53_2 hcz53_3 hcz53_4 hcz53_5 hcz53_6 hcz53_7 hcz53_8 hcz53_9
  try clear hcz58_0 hcz58_1 hcz58_10 hcz58_2 hcz58_3 hcz58_4 hcz58_5 hcz58_6 hcz58_7 hcz58_8 hcz58_9
  try clear hcz64_0 hcz64_1 hcz64_10 hcz64_2 hcz64_3 hcz64_4 hcz64_5 hcz64_6 hcz64_7 hcz64_8 hcz64_9
  try clear hcz69_0 hcz69_1 hcz69_10 hcz69_2 hcz69_3 hcz69_4 hcz69_5 hcz69_6 hcz69_7 hcz69_8 hcz69_9
  try clear hfz11_0 hfz11_1 hfz11_10 hfz11_11 hfz11_12 hfz11_13 hfz11_14 hfz11_15 hfz11_16 hfz11_17 hfz11_18 hfz11_19 hfz11_2 hfz11_20 hfz11_21 hfz11_3 hfz11_4 hfz11_5 hfz11_6 hfz11_7 hfz11_8 hfz11_9
  try clear hfz15_0 hfz15_1 hfz15_10 hfz15_2 hfz15_3 hfz15_4 hfz15_5 hfz15_6 hfz15_7 hfz15_8 hfz15_9
  try clear hfz16_0 hfz16_1 hfz16_10 hfz16_11 hfz16_12 hfz16_13 hfz16_14 hfz16_15 hfz16_16 hfz16_17 hfz16_18 hfz16_19 hfz16_2 hfz16_20 hfz16_21 hfz16_3 hfz16_4 hfz16_5 hfz16_6 hfz16_7 hfz16_8 hfz16_9
  try clear hfz21_0 hfz21_1 hfz21_10 hfz21_2 hfz21_3 hfz21_4 hfz21_5 hfz21_6 hfz21_7 hfz21_8 hfz21_9
  try clear hfz22_0 hfz22_1 hfz22_10 hfz22_2 hfz22_3 hfz22_4 hfz22_5 hfz22_6 hfz22_7 hfz22_8 hfz22_9
  try clear hfz28_0 hfz28_1 hfz28_10 hfz28_2 hfz28_3 hfz28_4 hfz28_5 hfz28_6 hfz28_7 hfz28_8 hfz28_9
  try clear hfz29_0 hfz29_1 hfz29_10 hfz29_2 hfz29_3 hfz29_4 hfz29_5 hfz29_6 hfz29_7 hfz29_8 hfz29_9
  try clear hfz30_0 hfz30_1 hfz30_10 hfz30_2 hfz30_3 hfz30_4 hfz30_5 hfz30_6 hfz30_7 hfz30_8 hfz30_9
  try clear hfz37_0 hfz37_1 hfz37_10 hfz37_2 hfz37_3 hfz37_4 hfz37_5 hfz37_6 hfz37_7 hfz37_8 hfz37_9
  try clear hfz38_0 hfz38_1 hfz38_10 hfz38_2 hfz38_3 hfz38_4 hfz38_5 hfz38_6 hfz38_7 hfz38_8 hfz38_9
  try clear hfz46_0 hfz46_1 hfz46_10 hfz46_2 hfz46_3 hfz46_4 hfz46_5 hfz46_6 hfz46_7 hfz46_8 hfz46_9
  try clear hfz53_0 hfz53_1 hfz53_10 hfz53_2 hfz53_3 hfz53_4 hfz53_5 hfz53_6 hfz53_7 hfz53_8 hfz53_9
  try clear hfz58_0 hfz58_1 hfz58_10 hfz58_2 hfz58_3 hfz58_4 hfz58_5 hfz58_6 hfz58_7 hfz58_8 hfz58_9
  try clear hfz64_0 hfz64_1 hfz64_10 hfz64_2 hfz64_3 hfz64_4 hfz64_5 hfz64_6 hfz64_7 hfz64_8 hfz64_9
  try clear hfz69_0 hfz69_1 hfz69_10 hfz69_2 hfz69_3 hfz69_4 hfz69_5 hfz69_6 hfz69_7 hfz69_8 hfz69_9
  obtain ⟨kq, x52_7, rfl, HA, HJ7, BK101, BK114, BK126, BK139, BK152, BK165, HB⟩ := hcut
  cases kq with
  | zero => exact absurd HA.out (by simp [drachmlaw04_WorthBack.j0])
  | succ kj7 =>
   have H := HA.out
   clear HA
   simp only [drachmlaw04_WorthBack.j0] at H
   by_cases c70 : x52_7 = true
   ·subst c70
    have H1 : (none) = some r := by rw [if_pos rfl] at H; exact H
    clear H
    have H := H1
    clear H1
    exact absurd H (by simp)
   ·replace c70 := Bool.eq_false_iff.mpr c70
    subst c70
    have H1 : (if t115 = 0 then (if t102 = true then (some (t164 == 11)) else (none)) else ((worth_Of.f kj7 1).bind fun bt166 => (if t164 = 0 then (drachmlaw04_WorthBack.j1 kj7 t102 t138 ((!(t153 == bt166.1) || (!(t154 == bt166.2.1) || (!(t155 == bt166.2.2.1)))) || ((!(t156 == bt166.2.2.2.1) || (!(t157 == bt166.2.2.2.2.1) || (!(t158 == bt166.2.2.2.2.2.1) || (!(t159 == bt166.2.2.2.2.2.2.1) || (!(t160 == bt166.2.2.2.2.2.2.2.1) || (!(t161 == bt166.2.2.2.2.2.2.2.2.1) || (!(t162 == bt166.2.2.2.2.2.2.2.2.2.1)))))))) || (!(t163 == bt166.2.2.2.2.2.2.2.2.2.2.1)))) t103 t104 t105 t106 t107 t108 t109 t110 t111 t112 t113 t115 t116 t117 t118 t119 t120 t121 t122 t123 t124 t125 t127 t128 t129 t130 t131 t132 t133 t134 t135 t136 t137) else (drachmlaw04_WorthBack.j1 kj7 t102 t138 true t103 t104 t105 t106 t107 t108 t109 t110 t111 t112 t113 t115 t116 t117 t118 t119 t120 t121 t122 t123 t124 t125 t127 t128 t129 t130 t131 t132 t133 t134 t135 t136 t137)))) = some r := by rw [if_neg (show ¬ (false = true) by decide)] at H; exact H
    clear H
    have H := H1
    clear H1
    by_cases c71 : t115 = 0
    ·rw [if_pos c71] at H
     have c71b0 : (t115 == 0) = true := beq_iff_eq.mpr c71
     have c71b1 : (t115 != 0) = false := bne_eq_false_iff_eq.mpr c71
     clear c71
     by_cases c72 : t102 = true
     ·subst c72
      have H1 : (some (t164 == 11)) = some r := by rw [if_pos rfl] at H; exact H
      clear H
      have H := H1
      clear H1
      obtain rfl := Option.some.inj H
      have hnb73 := NB126_101.out
      have hnc73 := NB101_126.out
      have hnb74 := NB126_114.out
      have hnc74 := NB114_126.out
      have hnb75 := NB126_139.out
      have hnc75 := NB139_126.out
      have hnb76 := NB126_152.out
      have hnc76 := NB152_126.out
      have hnb77 := NB126_165.out
      have hnc77 := NB165_126.out
      obtain ⟨hcz78_0, hcz78_1, hcz78_2, hcz78_3, hcz78_4, hcz78_5, hcz78_6, hcz78_7, hcz78_8, hcz78_9, hcz78_10⟩ := hc11 BK126.out
      obtain ⟨hfz78_0, hfz78_1, hfz78_2, hfz78_3, hfz78_4, hfz78_5, hfz78_6, hfz78_7, hfz78_8, hfz78_9, hfz78_10⟩ := hf11 BK126.out
      go_wp2
      go_ret
      exact ⟨by first | rfl | (simp [errW_none, errW_some] <;> rfl) | (simp [*, errW_none, errW_some] <;> rfl), bl HB.out⟩
     ·replace c72 := Bool.eq_false_iff.mpr c72
      subst c72
      have H1 : (none) = some r := by rw [if_neg (show ¬ (false = true) by decide)] at H; exact H
      clear H
      have H := H1
      clear H1
      exact absurd H (by simp)
    ·rw [if_neg c71] at H
     have c71b0 : (t115 == 0) = false := beq_eq_false_iff_ne.mpr c71
     have c71b1 : (t115 != 0) = true := bne_iff_ne.mpr c71
     replace H := Option.bind_eq_some_iff.mp H
     obtain ⟨⟨t166, t167, t168, t169, t170, t171, t172, t173, t174, t175, t176, t177⟩, A790, H⟩ := H
     replace H : (if t164 = 0 then (drachmlaw04_WorthBack.j1 kj7 t102 t138 ((!(t153 == t166) || (!(t154 == t167) || (!(t155 == t168)))) || ((!(t156 == t169) || (!(t157 == t170) || (!(t158 == t171) || (!(t159 == t172) || (!(t160 == t173) || (!(t161 == t174) || (!(t162 == t175)))))))) || (!(t163 == t176)))) t103 t104 t105 t106 t107 t108 t109 t110 t111 t112 t113 t115 t116 t117 t118 t119 t120 t121 t122 t123 t124 t125 t127 t128 t129 t130 t131 t132 t133 t134 t135 t136 t137) else (drachmlaw04_WorthBack.j1 kj7 t102 t138 true t103 t104 t105 t106 t107 t108 t109 t110 t111 t112 t113 t115 t116 t117 t118 t119 t120 t121 t122 t123 t124 t125 t127 t128 t129 t130 t131 t132 t133 t134 t135 t136 t137)) = some r := H
     have A79 := Aside0.mk A790
     clear A790
     have HC80 := Aside0.mk H
     clear H
     have hnb81 := NB126_101.out
     have hnc81 := NB101_126.out
     have hnb82 := NB126_114.out
     have hnc82 := NB114_126.out
     have hnb83 := NB126_139.out
     have hnc83 := NB139_126.out
     have hnb84 := NB126_152.out
     have hnc84 := NB152_126.out
     have hnb85 := NB126_165.out
     have hnc85 := NB165_126.out
     obtain ⟨hcz86_0, hcz86_1, hcz86_2, hcz86_3, hcz86_4, hcz86_5, hcz86_6, hcz86_7, hcz86_8, hcz86_9, hcz86_10⟩ := hc11 BK126.out
     obtain ⟨hfz86_0, hfz86_1, hfz86_2, hfz86_3, hfz86_4, hfz86_5, hfz86_6, hfz86_7, hfz86_8, hfz86_9, hfz86_10⟩ := hf11 BK126.out
     go_upto_region 14 with (first | (go_at_call 15; (with_reducible refine (worth_Of.calls kj7 1 t166 t167 t168 t169 t170 t171 t172 t173 t174 t175 t176 t177 _ (Glob.use hG (by decide) (bl HB.out)) A79.out).mono ?_); rintro e w87 ⟨rfl, hb⟩; replace BK101 := kb BK101 hb; replace BK114 := kb BK114 hb; replace BK126 := kb BK126 hb; replace BK139 := kb BK139 hb; replace BK152 := kb BK152 hb; replace BK165 := kb BK165 hb; replace HB := sb HB hb; (try clear hb); (try clear hb2); (try clear hk); (try clear hi)) | ((with_reducible refine gate_dst (N := 12) rfl ?_); refine box_event ?hg (N := 12) ?hd (cs := #[.int .i64 0, .int .i64 0, .int .i64 0, .int .i64 0, .int .i64 0, .int .i64 0, .int .i64 0, .int .i64 0, .int .i64 0, .int .i64 0, .int .i64 0]) (t := 31) ?hr ?_; (case hd => rfl); (case hg => rfl); (case hr => first | (go_simp; done) | (go_simp; rfl)); intro gb178 hg w88 hbox hb; have n0_ := kb BK101 hb; have n1_ := kb BK114 hb; have n2_ := kb BK126 hb; have n3_ := kb BK139 hb; have n4_ := kb BK152 hb; have n5_ := kb BK165 hb; have n6_ := sb HB hb; have n7_ := Aside0.mk (hbox); have n8_ := Aside0.mk ((by rw [hg]; exact (below_size (bl HB.out)) : w.heap.size ≤ gb178)); have n9_ := Aside0.mk ((by rw [hg]; exact (below_size (bl HB.out)) : w.heap.size ≤ gb178)); have n10_ := Aside0.mk ((by rw [hg]; exact Nat.ne_of_lt (blk_lt (kp BK101.out)) : gb101 ≠ gb178)); have n11_ := Aside0.mk ((by rw [hg]; exact Nat.ne_of_gt (blk_lt (kp BK101.out)) : gb178 ≠ gb101)); have n12_ := Aside0.mk ((by rw [hg]; exact Nat.ne_of_lt (blk_lt (kp BK114.out)) : gb114 ≠ gb178)); have n13_ := Aside0.mk ((by rw [hg]; exact Nat.ne_of_gt (blk_lt (kp BK114.out)) : gb178 ≠ gb114)); have n14_ := Aside0.mk ((by rw [hg]; exact Nat.ne_of_lt (blk_lt (kp BK126.out)) : gb126 ≠ gb178)); have n15_ := Aside0.mk ((by rw [hg]; exact Nat.ne_of_gt (blk_lt (kp BK126.out)) : gb178 ≠ gb126)); have n16_ := Aside0.mk ((by rw [hg]; exact Nat.ne_of_lt (blk_lt (kp BK139.out)) : gb139 ≠ gb178)); have n17_ := Aside0.mk ((by rw [hg]; exact Nat.ne_of_gt (blk_lt (kp BK139.out)) : gb178 ≠ gb139)); have n18_ := Aside0.mk ((by rw [hg]; exact Nat.ne_of_lt (blk_lt (kp BK152.out)) : gb152 ≠ gb178)); have n19_ := Aside0.mk ((by rw [hg]; exact Nat.ne_of_gt (blk_lt (kp BK152.out)) : gb178 ≠ gb152)); have n20_ := Aside0.mk ((by rw [hg]; exact Nat.ne_of_lt (blk_lt (kp BK165.out)) : gb165 ≠ gb178)); have n21_ := Aside0.mk ((by rw [hg]; exact Nat.ne_of_gt (blk_lt (kp BK165.out)) : gb178 ≠ gb165)); clear BK101; clear BK114; clear BK126; clear BK139; clear BK152; clear BK165; clear HB; have BK101 := n0_; have BK114 := n1_; have BK126 := n2_; have BK139 := n3_; have BK152 := n4_; have BK165 := n5_; have HB := n6_; have BK178 := n7_; have GW178 := n8_; have GE178 := n9_; have NB101_178 := n10_; have NB178_101 := n11_; have NB114_178 := n12_; have NB178_114 := n13_; have NB126_178 := n14_; have NB178_126 := n15_; have NB139_178 := n16_; have NB178_139 := n17_; have NB152_178 := n18_; have NB178_152 := n19_; have NB165_178 := n20_; have NB178_165 := n21_; clear n0_ n1_ n2_ n3_ n4_ n5_ n6_ n7_ n8_ n9_ n10_ n11_ n12_ n13_ n14_ n15_ n16_ n17_ n18_ n19_ n20_ n21_; clear hb hbox hg; have hnb89 := NB178_101.out; have hnc89 := NB101_178.out; have hnb90 := NB178_114.out; have hnc90 := NB114_178.out; have hnb91 := NB178_126.out; have hnc91 := NB126_178.out; have hnb92 := NB178_139.out; have hnc92 := NB139_178.out; have hnb93 := NB178_152.out; have hnc93 := NB152_178.out; have hnb94 := NB178_165.out; have hnc94 := NB165_178.out; obtain ⟨hcz95_0, hcz95_1, hcz95_2, hcz95_3, hcz95_4, hcz95_5, hcz95_6, hcz95_7, hcz95_8, hcz95_9, hcz95_10⟩ := hc11 BK178.out; obtain ⟨hfz95_0, hfz95_1, hfz95_2, hfz95_3, hfz95_4, hfz95_5, hfz95_6, hfz95_7, hfz95_8, hfz95_9, hfz95_10⟩ := hf11 BK178.out))
     (try simp only [Act.put, List.setIfInBounds_toArray, List.set_cons_zero, List.set_cons_succ])
     go_cut [72] (fun v72 wc => ∃ (kq : Nat) (x72_79 : Bool), v72 = .bool x72_79 ∧ Aside0 (drachmlaw04_WorthBack.j1 kq t102 t138 x72_79 t103 t104 t105 t106 t107 t108 t109 t110 t111 t112 t113 t115 t116 t117 t118 t119 t120 t121 t122 t123 t124 t125 t127 t128 t129 t130 t131 t132 t133 t134 t135 t136 t137 = some r) ∧ Aside0 (kq ≤ kj7) ∧ Aside0 (wc.heap[gb101]? = some (.cells #[.int .i64 a0_0, .int .i64 a0_1, .int .i64 a0_2, .int .i64 a0_3, .int .i64 a0_4, .int .i64 a0_5, .int .i64 a0_6, .int .i64 a0_7, .int .i64 a0_8, .int .i64 a0_9, .int .i64 0, .int .i64 a0_11, .int .i64 a0_12, .int .i64 a0_13, .int .i64 a0_14, .int .i64 a0_15, .int .i64 a0_16, .int .i64 a0_17, .int .i64 a0_18, .int .i64 a0_19, .int .i64 a0_20, .int .i64 0] 26 (0, 0))) ∧ Aside0 (wc.heap[gb114]? = some (.cells #[.int .i64 t103, .int .i64 t104, .int .i64 t105, .int .i64 t106, .int .i64 t107, .int .i64 t108, .int .i64 t109, .int .i64 t110, .int .i64 t111, .int .i64 t112, .int .i64 t113] 31 (0, 0))) ∧ Aside0 (wc.heap[gb126]? = some (.cells #[.int .i64 t115, .int .i64 t116, .int .i64 t117, .int .i64 t118, .int .i64 t119, .int .i64 t120, .int .i64 t121, .int .i64 t122, .int .i64 t123, .int .i64 t124, .int .i64 t125] 31 (0, 0))) ∧ Aside0 (wc.heap[gb139]? = some (.cells #[.int .i64 t127, .int .i64 t128, .int .i64 t129, .int .i64 t130, .int .i64 t131, .int .i64 t132, .int .i64 t133, .int .i64 t134, .int .i64 t135, .int .i64 t136, .int .i64 t137] 31 (0, 0))) ∧ Aside0 (wc.heap[gb152]? = some (.cells #[.int .i64 t140, .int .i64 t141, .int .i64 t142, .int .i64 t143, .int .i64 t144, .int .i64 t145, .int .i64 t146, .int .i64 t147, .int .i64 t148, .int .i64 t149, .int .i64 t150] 31 (0, 0))) ∧ Aside0 (wc.heap[gb165]? = some (.cells #[.int .i64 t153, .int .i64 t154, .int .i64 t155, .int .i64 t156, .int .i64 t157, .int .i64 t158, .int .i64 t159, .int .i64 t160, .int .i64 t161, .int .i64 t162, .int .i64 t163] 31 (0, 0))) ∧ Aside0 (wc.heap[gb178]? = some (.cells #[.int .i64 t166, .int .i64 t167, .int .i64 t168, .int .i64 t169, .int .i64 t170, .int .i64 t171, .int .i64 t172, .int .i64 t173, .int .i64 t174, .int .i64 t175, .int .i64 t176] 31 (0, 0))) ∧ Aside0 (Below w.heap.size w wc))
     case first =>
      have H := HC80.out
      clear HC80
      by_cases c96 : t164 = 0
      ·rw [if_pos c96] at H
       have c96b0 : (t164 == 0) = true := beq_iff_eq.mpr c96
       have c96b1 : (t164 != 0) = false := bne_eq_false_iff_eq.mpr c96
       clear c96
       (first | rw [c96b0] | (simp only [i64_w, i32_w]; rw [c96b0]) | skip)
       have H' := Aside0.mk H
       clear H
       have hnb97 := NB165_101.out
       have hnc97 := NB101_165.out
       have hnb98 := NB165_114.out
       have hnc98 := NB114_165.out
       have hnb99 := NB165_126.out
       have hnc99 := NB126_165.out
       have hnb100 := NB165_139.out
       have hnc100 := NB139_165.out
       have hnb101 := NB165_152.out
       have hnc101 := NB152_165.out
       have hnb102 := NB165_178.out
       have hnc102 := NB178_165.out
       obtain ⟨hcz103_0, hcz103_1, hcz103_2, hcz103_3, hcz103_4, hcz103_5, hcz103_6, hcz103_7, hcz103_8, hcz103_9, hcz103_10⟩ := hc11 BK165.out
       obtain ⟨hfz103_0, hfz103_1, hfz103_2, hfz103_3, hfz103_4, hfz103_5, hfz103_6, hfz103_7, hfz103_8, hfz103_9, hfz103_10⟩ := hf11 BK165.out
       have hnb104 := NB178_101.out
       have hnc104 := NB101_178.out
       have hnb105 := NB178_114.out
       have hnc105 := NB114_178.out
       have hnb106 := NB178_126.out
       have hnc106 := NB126_178.out
       have hnb107 := NB178_139.out
       have hnc107 := NB139_178.out
       have hnb108 := NB178_152.out
       have hnc108 := NB152_178.out
       obtain ⟨hcz109_0, hcz109_1, hcz109_2, hcz109_3, hcz109_4, hcz109_5, hcz109_6, hcz109_7, hcz109_8, hcz109_9, hcz109_10⟩ := hc11 BK178.out
       obtain ⟨hfz109_0, hfz109_1, hfz109_2, hfz109_3, hfz109_4, hfz109_5, hfz109_6, hfz109_7, hfz109_8, hfz109_9, hfz109_10⟩ := hf11 BK178.out
       go_wp2
       go_meet
       case rel => exact ⟨_, (((!(t153 == t166) || (!(t154 == t167) || (!(t155 == t168)))) || ((!(t156 == t169) || (!(t157 == t170) || (!(t158 == t171) || (!(t159 == t172) || (!(t160 == t173) || (!(t161 == t174) || (!(t162 == t175)))))))) || (!(t163 == t176))))), (by first | rfl | (simp; done) | (simp [*]; done)), H', ⟨by have := HJ7.out; first | omega | exact Nat.le_refl _⟩, ⟨kp BK101.out⟩, ⟨kp BK114.out⟩, ⟨kp BK126.out⟩, ⟨kp BK139.out⟩, ⟨kp BK152.out⟩, ⟨kp BK165.out⟩, ⟨kp (p11_10 (kp (p11_9 (kp (p11_8 (kp (p11_7 (kp (p11_6 (kp (p11_5 (kp (p11_4 (kp (p11_3 (kp (p11_2 (kp (p11_1 (kp (p11_0 (kp BK178.out))))))))))))))))))))))⟩, ⟨bl HB.out⟩⟩
      ·rw [if_neg c96] at H
       have c96b0 : (t164 == 0) = false := beq_eq_false_iff_ne.mpr c96
       have c96b1 : (t164 != 0) = true := bne_iff_ne.mpr c96
       (first | rw [c96b0] | (simp only [i64_w, i32_w]; rw [c96b0]) | skip)
       have H' := Aside0.mk H
       clear H
       go_wp2
       go_meet
       case rel => exact ⟨_, (true), (by first | rfl | (simp; done) | (simp [*]; done)), H', ⟨by have := HJ7.out; first | omega | exact Nat.le_refl _⟩, ⟨kp BK101.out⟩, ⟨kp BK114.out⟩, ⟨kp BK126.out⟩, ⟨kp BK139.out⟩, ⟨kp BK152.out⟩, ⟨kp BK165.out⟩, ⟨kp (p11_10 (kp (p11_9 (kp (p11_8 (kp (p11_7 (kp (p11_6 (kp (p11_5 (kp (p11_4 (kp (p11_3 (kp (p11_2 (kp (p11_1 (kp (p11_0 (kp BK178.out))))))))))))))))))))))⟩, ⟨bl HB.out⟩⟩
     case rest =>
      clear HC80
      try clear c1
      try clear p2
      try clear c5
      try clear c6
      try clear c7
      try clear c8
      try clear c9
      try clear c10
      try clear c15
      try clear c50
      try clear c51
      try clear c52
      try clear c54
      try clear c55
      try clear c56
      try clear c57
      try clear c59
      try clear c60
      try clear c61
      try clear c62
      try clear c63
      try clear c65
      try clear c66
      try clear c67
      try clear c68
      try clear c70
      try clear c71
      try clear c71b0
      try clear c71b1
      try clear c72
      try clear c73
      try clear c74
      try clear c75
      try clear c76
      try clear c77
      try clear c81
      try clear c82
      try clear c83
      try clear c84
      try clear c85
      try clear c89
      try clear c90
      try clear c91
      try clear c92
      try clear c93
      try clear c94
      try clear c96
      try clear c96b0
      try clear c96b1
      try clear c97
      try clear c98
      try clear c99
      try clear c100
      try clear c101
      try clear c102
      try clear c104
      try clear c105
      try clear c106
      try clear c107
      try clear c108
      try clear hcz103_0 hcz103_1 hcz103_10 hcz103_2 hcz103_3 hcz103_4 hcz103_5 hcz103_6 hcz103_7 hcz103_8 hcz103_9
      try clear hcz109_0 hcz109_1 hcz109_10 hcz109_2 hcz109_3 hcz109_4 hcz109_5 hcz109_6 hcz109_7 hcz109_8 hcz109_9
      try clear hcz11_0 hcz11_1 hcz11_10 hcz11_11 hcz11_12 hcz11_13 hcz11_14 hcz11_15 hcz11_16 hcz11_17 hcz11_18 hcz11_19 hcz11_2 hcz11_20 hcz11_21 hcz11_3 hcz11_4 hcz11_5 hcz11_6 hcz11_7 hcz11_8 hcz11_9
      try clear hcz15_0 hcz15_1 hcz15_10 hcz15_2 hcz15_3 hcz15_4 hcz15_5 hcz15_6 hcz15_7 hcz15_8 hcz15_9
      try clear hcz16_0 hcz16_1 hcz16_10 hcz16_11 hcz16_12 hcz16_13 hcz16_14 hcz16_15 hcz16_16 hcz16_17 hcz16_18 hcz16_19 hcz16_2 hcz16_20 hcz16_21 hcz16_3 hcz16_4 hcz16_5 hcz16_6 hcz16_7 hcz16_8 hcz16_9
      try clear hcz21_0 hcz21_1 hcz21_10 hcz21_2 hcz21_3 hcz21_4 hcz21_5 hcz21_6 hcz21_7 hcz21_8 hcz21_9
      try clear hcz22_0 hcz22_1 hcz22_10 hcz22_2 hcz22_3 hcz22_4 hcz22_5 hcz22_6 hcz22_7 hcz22_8 hcz22_9
      try clear hcz28_0 hcz28_1 hcz28_10 hcz28_2 hcz28_3 hcz28_4 hcz28_5 hcz28_6 hcz28_7 hcz28_8 hcz28_9
      try clear hcz29_0 hcz29_1 hcz29_10 hcz29_2 hcz29_3 hcz29_4 hcz29_5 hcz29_6 hcz29_7 hcz29_8 hcz29_9
      try clear hcz30_0 hcz30_1 hcz30_10 hcz30_2 hcz30_3 hcz30_4 hcz30_5 hcz30_6 hcz30_7 hcz30_8 hcz30_9
      try clear hcz37_0 hcz37_1 hcz37_10 hcz37_2 hcz37_3 hcz37_4 hcz37_5 hcz37_6 hcz37_7 hcz37_8 hcz37_9
      try clear hcz38_0 hcz38_1 hcz38_10 hcz38_2 hcz38_3 hcz38_4 hcz38_5 hcz38_6 hcz38_7 hcz38_8 hcz38_9
      try clear hcz46_0 hcz46_1 hcz46_10 hcz46_2 hcz46_3 hcz46_4 hcz46_5 hcz46_6 hcz46_7 hcz46_8 hcz46_9
      try clear hcz53_0 hcz53_1 hcz53_10 hcz53_2 hcz53_3 hcz53_4 hcz53_5 hcz53_6 hcz53_7 hcz53_8 hcz53_9
      try clear hcz58_0 hcz58_1 hcz58_10 hcz58_2 hcz58_3 hcz58_4 hcz58_5 hcz58_6 hcz58_7 hcz58_8 hcz58_9
      try clear hcz64_0 hcz64_1 hcz64_10 hcz64_2 hcz64_3 hcz64_4 hcz64_5 hcz64_6 hcz64_7 hcz64_8 hcz64_9
      try clear hcz69_0 hcz69_1 hcz69_10 hcz69_2 hcz69_3 hcz69_4 hcz69_5 hcz69_6 hcz69_7 hcz69_8 hcz69_9
      try clear hcz78_0 hcz78_1 hcz78_10 hcz78_2 hcz78_3 hcz78_4 hcz78_5 hcz78_6 hcz78_7 hcz78_8 hcz78_9
      try clear hcz86_0 hcz86_1 hcz86_10 hcz86_2 hcz86_3 hcz86_4 hcz86_5 hcz86_6 hcz86_7 hcz86_8 hcz86_9
      try clear hcz95_0 hcz95_1 hcz95_10 hcz95_2 hcz95_3 hcz95_4 hcz95_5 hcz95_6 hcz95_7 hcz95_8 hcz95_9
      try clear hfz103_0 hfz103_1 hfz103_10 hfz103_2 hfz103_3 hfz103_4 hfz103_5 hfz103_6 hfz103_7 hfz103_8 hfz103_9
      try clear hfz109_0 hfz109_1 hfz109_10 hfz109_2 hfz109_3 hfz109_4 hfz109_5 hfz109_6 hfz109_7 hfz109_8 hfz109_9
      try clear hfz11_0 hfz11_1 hfz11_10 hfz11_11 hfz11_12 hfz11_13 hfz11_14 hfz11_15 hfz11_16 hfz11_17 hfz11_18 hfz11_19 hfz11_2 hfz11_20 hfz11_21 hfz11_3 hfz11_4 hfz11_5 hfz11_6 hfz11_7 hfz11_8 hfz11_9
      try clear hfz15_0 hfz15_1 hfz15_10 hfz15_2 hfz15_3 hfz15_4 hfz15_5 hfz15_6 hfz15_7 hfz15_8 hfz15_9
      try clear hfz16_0 hfz16_1 hfz16_10 hfz16_11 hfz16_12 hfz16_13 hfz16_14 hfz16_15 hfz16_16 hfz16_17 hfz16_18 hfz16_19 hfz16_2 hfz16_20 hfz16_21 hfz16_3 hfz16_4 hfz16_5 hfz16_6 hfz16_7 hfz16_8 hfz16_9
      try clear hfz21_0 hfz21_1 hfz21_10 hfz21_2 hfz21_3 hfz21_4 hfz21_5 hfz21_6 hfz21_7 hfz21_8 hfz21_9
      try clear hfz22_0 hfz22_1 hfz22_10 hfz22_2 hfz22_3 hfz22_4 hfz22_5 hfz22_6 hfz22_7 hfz22_8 hfz22_9
      try clear hfz28_0 hfz28_1 hfz28_10 hfz28_2 hfz28_3 hfz28_4 hfz28_5 hfz28_6 hfz28_7 hfz28_8 hfz28_9
      try clear hfz29_0 hfz29_1 hfz29_10 hfz29_2 hfz29_3 hfz29_4 hfz29_5 hfz29_6 hfz29_7 hfz29_8 hfz29_9
      try clear hfz30_0 hfz30_1 hfz30_10 hfz30_2 hfz30_3 hfz30_4 hfz30_5 hfz30_6 hfz30_7 hfz30_8 hfz30_9
      try clear hfz37_0 hfz37_1 hfz37_10 hfz37_2 hfz37_3 hfz37_4 hfz37_5 hfz37_6 hfz37_7 hfz37_8 hfz37_9
      try clear hfz38_0 hfz38_1 hfz38_10 hfz38_2 hfz38_3 hfz38_4 hfz38_5 hfz38_6 hfz38_7 hfz38_8 hfz38_9
      try clear hfz46_0 hfz46_1 hfz46_10 hfz46_2 hfz46_3 hfz46_4 hfz46_5 hfz46_6 hfz46_7 hfz46_8 hfz46_9
      try clear hfz53_0 hfz53_1 hfz53_10 hfz53_2 hfz53_3 hfz53_4 hfz53_5 hfz53_6 hfz53_7 hfz53_8 hfz53_9
      try clear hfz58_0 hfz58_1 hfz58_10 hfz58_2 hfz58_3 hfz58_4 hfz58_5 hfz58_6 hfz58_7 hfz58_8 hfz58_9
      try clear hfz64_0 hfz64_1 hfz64_10 hfz64_2 hfz64_3 hfz64_4 hfz64_5 hfz64_6 hfz64_7 hfz64_8 hfz64_9
      try clear hfz69_0 hfz69_1 hfz69_10 hfz69_2 hfz69_3 hfz69_4 hfz69_5 hfz69_6 hfz69_7 hfz69_8 hfz69_9
      try clear hfz78_0 hfz78_1 hfz78_10 hfz78_2 hfz78_3 hfz78_4 hfz78_5 hfz78_6 hfz78_7 hfz78_8 hfz78_9
      try clear hfz86_0 hfz86_1 hfz86_10 hfz86_2 hfz86_3 hfz86_4 hfz86_5 hfz86_6 hfz86_7 hfz86_8 hfz86_9
      try clear hfz95_0 hfz95_1 hfz95_10 hfz95_2 hfz95_3 hfz95_4 hfz95_5 hfz95_6 hfz95_7 hfz95_8 hfz95_9
      obtain ⟨kq, x72_79, rfl, HA, HJ79, BK101, BK114, BK126, BK139, BK152, BK165, BK178, HB⟩ := hcut
      cases kq with
      | zero => exact absurd HA.out (by simp [drachmlaw04_WorthBack.j1])
      | succ kj79 =>
       have H := HA.out
       clear HA
       simp only [drachmlaw04_WorthBack.j1] at H
       by_cases c110 : x72_79 = true
       ·subst c110
        have H1 : (none) = some r := by rw [if_pos rfl] at H; exact H
        clear H
        have H := H1
        clear H1
        exact absurd H (by simp)
       ·replace c110 := Bool.eq_false_iff.mpr c110
        subst c110
        have H1 : (if t138 = 0 then ((worth_Div.f kj79 t127 t128 t129 t130 t131 t132 t133 t134 t135 t136 t137 t115 t116 t117 t118 t119 t120 t121 t122 t123 t124 t125).bind fun bt179 => (if t102 = true then (if bt179.2.2.2.2.2.2.2.2.2.2.2 = 0 then (if (bt179.1 == t103 && (bt179.2.1 == t104 && (bt179.2.2.1 == t105))) = true then (some (bt179.2.2.2.1 == t106 && (bt179.2.2.2.2.1 == t107 && (bt179.2.2.2.2.2.1 == t108 && (bt179.2.2.2.2.2.2.1 == t109 && (bt179.2.2.2.2.2.2.2.1 == t110 && (bt179.2.2.2.2.2.2.2.2.1 == t111 && (bt179.2.2.2.2.2.2.2.2.2.1 == t112)))))))) else (none)) else (none)) else (none))) else (if t102 = true then (some (t138 == 10)) else (none))) = some r := by rw [if_neg (show ¬ (false = true) by decide)] at H; exact H
        clear H
        have H := H1
        clear H1
        by_cases c111 : t138 = 0
        ·rw [if_pos c111] at H
         have c111b0 : (t138 == 0) = true := beq_iff_eq.mpr c111
         have c111b1 : (t138 != 0) = false := bne_eq_false_iff_eq.mpr c111
         clear c111
         replace H := Option.bind_eq_some_iff.mp H
         obtain ⟨⟨t179, t180, t181, t182, t183, t184, t185, t186, t187, t188, t189, t190⟩, A1120, H⟩ := H
         replace H : (if t102 = true then (if t190 = 0 then (if (t179 == t103 && (t180 == t104 && (t181 == t105))) = true then (some (t182 == t106 && (t183 == t107 && (t184 == t108 && (t185 == t109 && (t186 == t110 && (t187 == t111 && (t188 == t112)))))))) else (none)) else (none)) else (none)) = some r := H
         have A112 := Aside0.mk A1120
         clear A1120
         by_cases c113 : t102 = true
         ·subst c113
          have H1 : (if t190 = 0 then (if (t179 == t103 && (t180 == t104 && (t181 == t105))) = true then (some (t182 == t106 && (t183 == t107 && (t184 == t108 && (t185 == t109 && (t186 == t110 && (t187 == t111 && (t188 == t112)))))))) else (none)) else (none)) = some r := by rw [if_pos rfl] at H; exact H
          clear H
          have H := H1
          clear H1
          by_cases c114 : t190 = 0
          ·rw [if_pos c114] at H
           have c114b0 : (t190 == 0) = true := beq_iff_eq.mpr c114
           have c114b1 : (t190 != 0) = false := bne_eq_false_iff_eq.mpr c114
           clear c114
           by_cases c115 : (t179 == t103 && (t180 == t104 && (t181 == t105))) = true
           ·rw [if_pos c115] at H
            have c115b0 : (t179 == t103 && (t180 == t104 && (t181 == t105))) = true := c115
            (try (have c115b1 : decide (t179 = t103 && (t180 == t104 && (t181 == t105))) = true := by simpa using c115))
            (try (have c115b2 : (t179 == t103 && (t180 == t104 && (t181 == t105))) = true := by simpa using c115))
            clear c115
            obtain rfl := Option.some.inj H
            have hnb116 := NB139_101.out
            have hnc116 := NB101_139.out
            have hnb117 := NB139_114.out
            have hnc117 := NB114_139.out
            have hnb118 := NB139_126.out
            have hnc118 := NB126_139.out
            have hnb119 := NB139_152.out
            have hnc119 := NB152_139.out
            have hnb120 := NB139_165.out
            have hnc120 := NB165_139.out
            have hnb121 := NB139_178.out
            have hnc121 := NB178_139.out
            obtain ⟨hcz122_0, hcz122_1, hcz122_2, hcz122_3, hcz122_4, hcz122_5, hcz122_6, hcz122_7, hcz122_8, hcz122_9, hcz122_10⟩ := hc11 BK139.out
            obtain ⟨hfz122_0, hfz122_1, hfz122_2, hfz122_3, hfz122_4, hfz122_5, hfz122_6, hfz122_7, hfz122_8, hfz122_9, hfz122_10⟩ := hf11 BK139.out
            have hnb123 := NB126_101.out
            have hnc123 := NB101_126.out
            have hnb124 := NB126_114.out
            have hnc124 := NB114_126.out
            have hnb125 := NB126_152.out
            have hnc125 := NB152_126.out
            have hnb126 := NB126_165.out
            have hnc126 := NB165_126.out
            have hnb127 := NB126_178.out
            have hnc127 := NB178_126.out
            obtain ⟨hcz128_0, hcz128_1, hcz128_2, hcz128_3, hcz128_4, hcz128_5, hcz128_6, hcz128_7, hcz128_8, hcz128_9, hcz128_10⟩ := hc11 BK126.out
            obtain ⟨hfz128_0, hfz128_1, hfz128_2, hfz128_3, hfz128_4, hfz128_5, hfz128_6, hfz128_7, hfz128_8, hfz128_9, hfz128_10⟩ := hf11 BK126.out
            go_wp2_with (first | (go_at_call 14; (with_reducible refine (worth_Div.calls kj79 t127 t128 t129 t130 t131 t132 t133 t134 t135 t136 t137 t115 t116 t117 t118 t119 t120 t121 t122 t123 t124 t125 t179 t180 t181 t182 t183 t184 t185 t186 t187 t188 t189 t190 _ (Glob.use hG (by decide) (bl HB.out)) A112.out).mono ?_); rintro e w129 ⟨rfl, hb⟩; replace BK101 := kb BK101 hb; replace BK114 := kb BK114 hb; replace BK126 := kb BK126 hb; replace BK139 := kb BK139 hb; replace BK152 := kb BK152 hb; replace BK165 := kb BK165 hb; replace BK178 := kb BK178 hb; replace HB := sb HB hb; (try clear hb); (try clear hb2); (try clear hk); (try clear hi)) | ((with_reducible refine gate_dst (N := 14) rfl ?_); refine box_event ?hg (N := 14) ?hd (cs := #[.int .i64 0, .int .i64 0, .int .i64 0, .int .i64 0, .int .i64 0, .int .i64 0, .int .i64 0, .int .i64 0, .int .i64 0, .int .i64 0, .int .i64 0]) (t := 31) ?hr ?_; (case hd => rfl); (case hg => rfl); (case hr => first | (go_simp; done) | (go_simp; rfl)); intro gb191 hg w130 hbox hb; have n0_ := kb BK101 hb; have n1_ := kb BK114 hb; have n2_ := kb BK126 hb; have n3_ := kb BK139 hb; have n4_ := kb BK152 hb; have n5_ := kb BK165 hb; have n6_ := kb BK178 hb; have n7_ := sb HB hb; have n8_ := Aside0.mk (hbox); have n9_ := Aside0.mk ((by rw [hg]; exact (below_size (bl HB.out)) : w.heap.size ≤ gb191)); have n10_ := Aside0.mk ((by rw [hg]; exact (below_size (bl HB.out)) : w.heap.size ≤ gb191)); have n11_ := Aside0.mk ((by rw [hg]; exact Nat.ne_of_lt (blk_lt (kp BK101.out)) : gb101 ≠ gb191)); have n12_ := Aside0.mk ((by rw [hg]; exact Nat.ne_of_gt (blk_lt (kp BK101.out)) : gb191 ≠ gb101)); have n13_ := Aside0.mk ((by rw [hg]; exact Nat.ne_of_lt (blk_lt (kp BK114.out)) : gb114 ≠ gb191)); have n14_ := Aside0.mk ((by rw [hg]; exact Nat.ne_of_gt (blk_lt (kp BK114.out)) : gb191 ≠ gb114)); have n15_ := Aside0.mk ((by rw [hg]; exact Nat.ne_of_lt (blk_lt (kp BK126.out)) : gb126 ≠ gb191)); have n16_ := Aside0.mk ((by rw [hg]; exact Nat.ne_of_gt (blk_lt (kp BK126.out)) : gb191 ≠ gb126)); have n17_ := Aside0.mk ((by rw [hg]; exact Nat.ne_of_lt (blk_lt (kp BK139.out)) : gb139 ≠ gb191)); have n18_ := Aside0.mk ((by rw [hg]; exact Nat.ne_of_gt (blk_lt (kp BK139.out)) : gb191 ≠ gb139)); have n19_ := Aside0.mk ((by rw [hg]; exact Nat.ne_of_lt (blk_lt (kp BK152.out)) : gb152 ≠ gb191)); have n20_ := Aside0.mk ((by rw [hg]; exact Nat.ne_of_gt (blk_lt (kp BK152.out)) : gb191 ≠ gb152)); have n21_ := Aside0.mk ((by rw [hg]; exact Nat.ne_of_lt (blk_lt (kp BK165.out)) : gb165 ≠ gb191)); have n22_ := Aside0.mk ((by rw [hg]; exact Nat.ne_of_gt (blk_lt (kp BK165.out)) : gb191 ≠ gb165)); have n23_ := Aside0.mk ((by rw [hg]; exact Nat.ne_of_lt (blk_lt (kp BK178.out)) : gb178 ≠ gb191)); have n24_ := Aside0.mk ((by rw [hg]; exact Nat.ne_of_gt (blk_lt (kp BK178.out)) : gb191 ≠ gb178)); clear BK101; clear BK114; clear BK126; clear BK139; clear BK152; clear BK165; clear BK178; clear HB; have BK101 := n0_; have BK114 := n1_; have BK126 := n2_; have BK139 := n3_; have BK152 := n4_; have BK165 := n5_; have BK178 := n6_; have HB := n7_; have BK191 := n8_; have GW191 := n9_; have GE191 := n10_; have NB101_191 := n11_; have NB191_101 := n12_; have NB114_191 := n13_; have NB191_114 := n14_; have NB126_191 := n15_; have NB191_126 := n16_; have NB139_191 := n17_; have NB191_139 := n18_; have NB152_191 := n19_; have NB191_152 := n20_; have NB165_191 := n21_; have NB191_165 := n22_; have NB178_191 := n23_; have NB191_178 := n24_; clear n0_ n1_ n2_ n3_ n4_ n5_ n6_ n7_ n8_ n9_ n10_ n11_ n12_ n13_ n14_ n15_ n16_ n17_ n18_ n19_ n20_ n21_ n22_ n23_ n24_; clear hb hbox hg; have hnb131 := NB191_101.out; have hnc131 := NB101_191.out; have hnb132 := NB191_114.out; have hnc132 := NB114_191.out; have hnb133 := NB191_126.out; have hnc133 := NB126_191.out; have hnb134 := NB191_139.out; have hnc134 := NB139_191.out; have hnb135 := NB191_152.out; have hnc135 := NB152_191.out; have hnb136 := NB191_165.out; have hnc136 := NB165_191.out; have hnb137 := NB191_178.out; have hnc137 := NB178_191.out; obtain ⟨hcz138_0, hcz138_1, hcz138_2, hcz138_3, hcz138_4, hcz138_5, hcz138_6, hcz138_7, hcz138_8, hcz138_9, hcz138_10⟩ := hc11 BK191.out; obtain ⟨hfz138_0, hfz138_1, hfz138_2, hfz138_3, hfz138_4, hfz138_5, hfz138_6, hfz138_7, hfz138_8, hfz138_9, hfz138_10⟩ := hf11 BK191.out; have hnb139 := NB114_101.out; have hnc139 := NB101_114.out; have hnb140 := NB114_152.out; have hnc140 := NB152_114.out; have hnb141 := NB114_165.out; have hnc141 := NB165_114.out; have hnb142 := NB114_178.out; have hnc142 := NB178_114.out; obtain ⟨hcz143_0, hcz143_1, hcz143_2, hcz143_3, hcz143_4, hcz143_5, hcz143_6, hcz143_7, hcz143_8, hcz143_9, hcz143_10⟩ := hc11 BK114.out; obtain ⟨hfz143_0, hfz143_1, hfz143_2, hfz143_3, hfz143_4, hfz143_5, hfz143_6, hfz143_7, hfz143_8, hfz143_9, hfz143_10⟩ := hf11 BK114.out))
            go_ret
            exact ⟨by first | rfl | (simp [errW_none, errW_some] <;> rfl) | (simp [*, errW_none, errW_some] <;> rfl), bl HB.out⟩
           ·rw [if_neg c115] at H
            exact absurd H (by simp)
          ·rw [if_neg c114] at H
           exact absurd H (by simp)
         ·replace c113 := Bool.eq_false_iff.mpr c113
          subst c113
          have H1 : (none) = some r := by rw [if_neg (show ¬ (false = true) by decide)] at H; exact H
          clear H
          have H := H1
          clear H1
          exact absurd H (by simp)
        ·rw [if_neg c111] at H
         have c111b0 : (t138 == 0) = false := beq_eq_false_iff_ne.mpr c111
         have c111b1 : (t138 != 0) = true := bne_iff_ne.mpr c111
         by_cases c144 : t102 = true
         ·subst c144
          have H1 : (some (t138 == 10)) = some r := by rw [if_pos rfl] at H; exact H
          clear H
          have H := H1
          clear H1
          obtain rfl := Option.some.inj H
          go_wp2
          go_ret
          exact ⟨by first | rfl | (simp [errW_none, errW_some] <;> rfl) | (simp [*, errW_none, errW_some] <;> rfl), bl HB.out⟩
         ·replace c144 := Bool.eq_false_iff.mpr c144
          subst c144
          have H1 : (none) = some r := by rw [if_neg (show ¬ (false = true) by decide)] at H; exact H
          clear H
          have H := H1
          clear H1
          exact absurd H (by simp)

/-- THE ONE PURE STATEMENT of drachmlaw04_WorthBack: yours. -/
def drachmlaw04_WorthBack.Pure : Prop := ∀ (a0_0 : Int) (a0_1 : Int) (a0_2 : Int) (a0_3 : Int) (a0_4 : Int) (a0_5 : Int) (a0_6 : Int) (a0_7 : Int) (a0_8 : Int) (a0_9 : Int) (a0_10 : Int) (a0_11 : Int) (a0_12 : Int) (a0_13 : Int) (a0_14 : Int) (a0_15 : Int) (a0_16 : Int) (a0_17 : Int) (a0_18 : Int) (a0_19 : Int) (a0_20 : Int) (a0_21 : Int), (Lit.int .i64 a0_0).wf = true → (Lit.int .i64 a0_1).wf = true → (Lit.int .i64 a0_2).wf = true → (Lit.int .i64 a0_3).wf = true → (Lit.int .i64 a0_4).wf = true → (Lit.int .i64 a0_5).wf = true → (Lit.int .i64 a0_6).wf = true → (Lit.int .i64 a0_7).wf = true → (Lit.int .i64 a0_8).wf = true → (Lit.int .i64 a0_9).wf = true → (Lit.int .i64 a0_10).wf = true → (Lit.int .i64 a0_11).wf = true → (Lit.int .i64 a0_12).wf = true → (Lit.int .i64 a0_13).wf = true → (Lit.int .i64 a0_14).wf = true → (Lit.int .i64 a0_15).wf = true → (Lit.int .i64 a0_16).wf = true → (Lit.int .i64 a0_17).wf = true → (Lit.int .i64 a0_18).wf = true → (Lit.int .i64 a0_19).wf = true → (Lit.int .i64 a0_20).wf = true → (Lit.int .i64 a0_21).wf = true → ∃ k, drachmlaw04_WorthBack.f k a0_0 a0_1 a0_2 a0_3 a0_4 a0_5 a0_6 a0_7 a0_8 a0_9 a0_10 a0_11 a0_12 a0_13 a0_14 a0_15 a0_16 a0_17 a0_18 a0_19 a0_20 a0_21 = some true
theorem drachmlaw04_WorthBack.walk (P : drachmlaw04_WorthBack.Pure) (a0_0 : Int) (a0_1 : Int) (a0_2 : Int) (a0_3 : Int) (a0_4 : Int) (a0_5 : Int) (a0_6 : Int) (a0_7 : Int) (a0_8 : Int) (a0_9 : Int) (a0_10 : Int) (a0_11 : Int) (a0_12 : Int) (a0_13 : Int) (a0_14 : Int) (a0_15 : Int) (a0_16 : Int) (a0_17 : Int) (a0_18 : Int) (a0_19 : Int) (a0_20 : Int) (a0_21 : Int) (w : World) (hG : Glob [1, 2] w) (w0_0 : (Lit.int .i64 a0_0).wf = true) (w0_1 : (Lit.int .i64 a0_1).wf = true) (w0_2 : (Lit.int .i64 a0_2).wf = true) (w0_3 : (Lit.int .i64 a0_3).wf = true) (w0_4 : (Lit.int .i64 a0_4).wf = true) (w0_5 : (Lit.int .i64 a0_5).wf = true) (w0_6 : (Lit.int .i64 a0_6).wf = true) (w0_7 : (Lit.int .i64 a0_7).wf = true) (w0_8 : (Lit.int .i64 a0_8).wf = true) (w0_9 : (Lit.int .i64 a0_9).wf = true) (w0_10 : (Lit.int .i64 a0_10).wf = true) (w0_11 : (Lit.int .i64 a0_11).wf = true) (w0_12 : (Lit.int .i64 a0_12).wf = true) (w0_13 : (Lit.int .i64 a0_13).wf = true) (w0_14 : (Lit.int .i64 a0_14).wf = true) (w0_15 : (Lit.int .i64 a0_15).wf = true) (w0_16 : (Lit.int .i64 a0_16).wf = true) (w0_17 : (Lit.int .i64 a0_17).wf = true) (w0_18 : (Lit.int .i64 a0_18).wf = true) (w0_19 : (Lit.int .i64 a0_19).wf = true) (w0_20 : (Lit.int .i64 a0_20).wf = true) (w0_21 : (Lit.int .i64 a0_21).wf = true) :
  Calls Tryd.prog 5 #[.agg #[.int .i64 a0_0, .int .i64 a0_1, .int .i64 a0_2, .int .i64 a0_3, .int .i64 a0_4, .int .i64 a0_5, .int .i64 a0_6, .int .i64 a0_7, .int .i64 a0_8, .int .i64 a0_9, .int .i64 a0_10, .int .i64 a0_11, .int .i64 a0_12, .int .i64 a0_13, .int .i64 a0_14, .int .i64 a0_15, .int .i64 a0_16, .int .i64 a0_17, .int .i64 a0_18, .int .i64 a0_19, .int .i64 a0_20, .int .i64 a0_21]] w fun e w' => e = .returned (.bool true) ∧ Below w.heap.size w w' := by
 obtain ⟨k, h⟩ := P a0_0 a0_1 a0_2 a0_3 a0_4 a0_5 a0_6 a0_7 a0_8 a0_9 a0_10 a0_11 a0_12 a0_13 a0_14 a0_15 a0_16 a0_17 a0_18 a0_19 a0_20 a0_21 w0_0 w0_1 w0_2 w0_3 w0_4 w0_5 w0_6 w0_7 w0_8 w0_9 w0_10 w0_11 w0_12 w0_13 w0_14 w0_15 w0_16 w0_17 w0_18 w0_19 w0_20 w0_21
 refine (drachmlaw04_WorthBack.calls k a0_0 a0_1 a0_2 a0_3 a0_4 a0_5 a0_6 a0_7 a0_8 a0_9 a0_10 a0_11 a0_12 a0_13 a0_14 a0_15 a0_16 a0_17 a0_18 a0_19 a0_20 a0_21 true w hG h).mono ?_
 rintro e w' ⟨rfl, hd⟩
 exact ⟨rfl, hd⟩

end Go.Proofs.YthfibffgmoblaaaDoor.PWorthBack

