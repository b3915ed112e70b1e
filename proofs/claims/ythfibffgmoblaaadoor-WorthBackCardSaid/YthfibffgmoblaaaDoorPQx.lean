/- Printed by a program of this session (wip/tools/prt.py) out of the translation: plain functions, and that the calls come to just them. No conditions beyond those that stand in each theorem. -/
import Derived.Test.YthfibffgmoblaaaDoorWw
import Derived.Test.YthfibffgmoblaaaDoorSq
import Derived.Test.YthfibffgmoblaaaDoorProg
import Derived.Below
import Derived.Deep.Draws
import Derived.Deep.AppendLies
import Derived.Maps.AppendAt
import Derived.OwnWalk
import Derived.Laws.BytesArg
import Derived.Laws.MakeOwn
import Derived.Laws.OwnMore
import Derived.Deep.OwnRows
import Derived.Tactics
import Derived.Lib.ConvBytes
import Derived.Laws.Slices
import Derived.WalkKit
import Derived.KernelRfl
import Derived.RowKit3
import Derived.Deep.LoopGhost
import Derived.Deep.QuietTactic
import Derived.BigQuiet
import Derived.WideLaws
import Derived.Deep.DeepCutAuto
import Derived.Deep.CutBlock
import Derived.Deep.RegionHeld3
import Derived.Laws.Rows
import Derived.Lib.AppendStr
import Derived.ArgAppend
import Derived.Laws.IdiomCopy
import Derived.OrdersHeld
import Derived.Laws.BitsLemmas
import Derived.RowKit
import Derived.Test.YthfibffgmoblaaaDoorGlob
import Derived.Test.YthfibffgmoblaaaDoorYm
import Derived.Test.YthfibffgmoblaaaDoorPBx
import Derived.Test.YthfibffgmoblaaaDoorPCx
import Derived.Test.YthfibffgmoblaaaDoorPDx
import Derived.Test.YthfibffgmoblaaaDoorPOx
import Derived.Test.YthfibffgmoblaaaDoorPRx
import Derived.Test.YthfibffgmoblaaaDoorPSx
import Derived.Test.YthfibffgmoblaaaDoorPTx
import Derived.Test.YthfibffgmoblaaaDoorPXx
namespace Go.Proofs.YthfibffgmoblaaaDoor.PQ
open Go.Proofs.YthfibffgmoblaaaDoor.Sq Go.RowKit Go.Proofs.YthfibffgmoblaaaDoorW.PrintWords Go.Proofs.YthfibffgmoblaaaDoorW.PrintLast Go.Proofs.YthfibffgmoblaaaDoorW.PrintMore Go.Proofs.YthfibffgmoblaaaDoor.PB Go.Proofs.YthfibffgmoblaaaDoor.PC Go.Proofs.YthfibffgmoblaaaDoor.PD Go.Proofs.YthfibffgmoblaaaDoor.PO Go.Proofs.YthfibffgmoblaaaDoor.PR Go.Proofs.YthfibffgmoblaaaDoor.PS Go.Proofs.YthfibffgmoblaaaDoor.PT Go.Proofs.YthfibffgmoblaaaDoor.PX
attribute [local go_sem] max2_int min2_int max_two min_two max_three min_three max_four min_four   -- for this text's walks alone
set_option linter.unusedVariables false
set_option linter.unusedSimpArgs false

theorem arr_cell {w : World} {g : Nat} {e : Int → Value} (o z : Nat) (l : List Int) (j : Int) (h : ∀ i, i < l.length → w.cell? ⟨g, o + i * z, none⟩ = some (e (l.getD i 0))) (h0 : 0 ≤ j) (hj : j < (l.length : Int)) : w.cell? ⟨g, o + j.toNat * z, none⟩ = some (e (rd l j)) := h j.toNat (by omega)
theorem arr_cell1 {w : World} {g : Nat} {e : Int → Value} (l : List Int) (j : Int) (h : ∀ i, i < l.length → w.cell? ⟨g, i, none⟩ = some (e (l.getD i 0))) (h0 : 0 ≤ j) (hj : j < (l.length : Int)) : w.cell? ⟨g, j.toNat, none⟩ = some (e (rd l j)) := h j.toNat (by omega)
theorem arr_cell2 {w : World} {g : Nat} {e : Int → Value} (z : Nat) (l : List Int) (j : Int) (h : ∀ i, i < l.length → w.cell? ⟨g, i * z, none⟩ = some (e (l.getD i 0))) (h0 : 0 ≤ j) (hj : j < (l.length : Int)) : w.cell? ⟨g, j.toNat * z, none⟩ = some (e (rd l j)) := h j.toNat (by omega)


def errW : Option Int → Value
 | none => .nilIface
 | some c => .iface 0 (.int .i64 c)
theorem errW_none : errW none = .nilIface := rfl
theorem errW_some (c : Int) : errW (some c) = .iface 0 (.int .i64 c) := rfl

-- the values' own types

end Go.Proofs.YthfibffgmoblaaaDoor.PQ

namespace Go.Proofs.YthfibffgmoblaaaDoor.PQ
open Go.Proofs.YthfibffgmoblaaaDoor.Sq Go.RowKit Go.Proofs.YthfibffgmoblaaaDoorW.PrintWords Go.Proofs.YthfibffgmoblaaaDoorW.PrintLast Go.Proofs.YthfibffgmoblaaaDoorW.PrintMore Go.Proofs.YthfibffgmoblaaaDoor.PB Go.Proofs.YthfibffgmoblaaaDoor.PC Go.Proofs.YthfibffgmoblaaaDoor.PD Go.Proofs.YthfibffgmoblaaaDoor.PO Go.Proofs.YthfibffgmoblaaaDoor.PR Go.Proofs.YthfibffgmoblaaaDoor.PS Go.Proofs.YthfibffgmoblaaaDoor.PT Go.Proofs.YthfibffgmoblaaaDoor.PX
attribute [local go_sem] max2_int min2_int max_two min_two max_three min_three max_four min_four   -- for this text's walks alone
set_option linter.unusedVariables false
set_option linter.unusedSimpArgs false

theorem eqA29 (d : Nat) (w : World) (x0 y0 : Int) (x1 y1 : Int) (x2 y2 : Int) :
  (Op.equalIn (d + 2) 29 (.agg #[.int .i64 x0, .int .i64 x1, .int .i64 x2]) (.agg #[.int .i64 y0, .int .i64 y1, .int .i64 y2])).run Tryd.prog w = .ok (x0 == y0 && (x1 == y1 && (x2 == y2))) w := by
 refine eqA_of Tryd.underlying29 (by kernel_rfl) ?_
 refine eqf_cons (by rfl) (by go_simp; rfl) (by go_simp; rfl) (by go_simp) ?_
 refine eqf_cons (by rfl) (by go_simp; rfl) (by go_simp; rfl) (by go_simp) ?_
 exact eqf_last (by rfl) (by go_simp; rfl) (by go_simp; rfl) (by go_simp)
end Go.Proofs.YthfibffgmoblaaaDoor.PQ

namespace Go.Proofs.YthfibffgmoblaaaDoor.PQ
open Go.Proofs.YthfibffgmoblaaaDoor.Sq Go.RowKit Go.Proofs.YthfibffgmoblaaaDoorW.PrintWords Go.Proofs.YthfibffgmoblaaaDoorW.PrintLast Go.Proofs.YthfibffgmoblaaaDoorW.PrintMore Go.Proofs.YthfibffgmoblaaaDoor.PB Go.Proofs.YthfibffgmoblaaaDoor.PC Go.Proofs.YthfibffgmoblaaaDoor.PD Go.Proofs.YthfibffgmoblaaaDoor.PO Go.Proofs.YthfibffgmoblaaaDoor.PR Go.Proofs.YthfibffgmoblaaaDoor.PS Go.Proofs.YthfibffgmoblaaaDoor.PT Go.Proofs.YthfibffgmoblaaaDoor.PX
attribute [local go_sem] max2_int min2_int max_two min_two max_three min_three max_four min_four   -- for this text's walks alone
set_option linter.unusedVariables false
set_option linter.unusedSimpArgs false

attribute [local go_sem high] eqA29
/-! ### drachmlaw04_awake: function 9 -/
def drachmlaw04_awake.f (k : Nat)  : Option (Bool) := (worth_Mul.f k 1 1 3 1 (-2) 0 0 0 0 0 0 1 1 3 1 (-2) 0 0 0 0 0 1).bind fun bt103 => ((worth_Of.f k 1000).bind fun bt116 => ((worth_Text.f k 1 1 3 1 (-2) 0 0 0 0 0 0).bind fun t129 => (if t129.toList = ([49, 101, 51, 32, 109, 49, 115, 45, 50] : List UInt8) then (if bt103.2.2.2.2.2.2.2.2.2.2.2 = 18 then (if bt116.2.2.2.2.2.2.2.2.2.2.2 = 0 then (some (bt116.1 == 1 && (bt116.2.1 == 1 && (bt116.2.2.1 == 3)))) else (none)) else (none)) else (none))))
theorem drachmlaw04_awake.mono : ∀ k, LeO (drachmlaw04_awake.f k ) (drachmlaw04_awake.f (k + 1) ) := by
 intro  k
 unfold drachmlaw04_awake.f
 repeat' first
   | (with_reducible exact worth_Mul.mono _ _ _ _ _ _ _ _ _ _ _ _ _ _ _ _ _ _ _ _ _ _ _)
   | (with_reducible exact worth_Of.mono _ _)
   | (with_reducible exact worth_Text.mono _ _ _ _ _ _ _ _ _ _ _ _)
   | (with_reducible exact LeO.refl _)
   | (with_reducible exact LeO.none _)
   | (with_reducible refine LeO.ite ?_ ?_)
   | (with_reducible refine LeO.bind ?_ (fun _ => ?_))
   | exact worth_Mul.mono _ _ _ _ _ _ _ _ _ _ _ _ _ _ _ _ _ _ _ _ _ _ _
   | exact worth_Of.mono _ _
   | exact worth_Text.mono _ _ _ _ _ _ _ _ _ _ _ _
   | exact LeO.none _
   | refine LeO.ite ?_ ?_
   | refine LeO.bind ?_ (fun _ => ?_)
set_option maxHeartbeats 8000000 in
set_option maxRecDepth 100000 in
theorem drachmlaw04_awake.calls (k : Nat)  (r : Bool) (w : World) (hG : Glob [1, 2] w) (h : drachmlaw04_awake.f k  = some r) :
  Calls Tryd.prog 9 #[] w fun e w' => e = .returned (.bool r) ∧ Below w.heap.size w w' := by
 have hu29 := Tryd.underlying29
 have hu23 := Tryd.underlying23
 have hu31 := Tryd.underlying31
 have HB := Aside0.mk (Below.refl w.heap.size w)
 have H : ((worth_Mul.f k 1 1 3 1 (-2) 0 0 0 0 0 0 1 1 3 1 (-2) 0 0 0 0 0 1).bind fun bt103 => ((worth_Of.f k 1000).bind fun bt116 => ((worth_Text.f k 1 1 3 1 (-2) 0 0 0 0 0 0).bind fun t129 => (if t129.toList = ([49, 101, 51, 32, 109, 49, 115, 45, 50] : List UInt8) then (if bt103.2.2.2.2.2.2.2.2.2.2.2 = 18 then (if bt116.2.2.2.2.2.2.2.2.2.2.2 = 0 then (some (bt116.1 == 1 && (bt116.2.1 == 1 && (bt116.2.2.1 == 3)))) else (none)) else (none)) else (none))))) = some r := h
 clear h
 replace H := Option.bind_eq_some_iff.mp H
 obtain ⟨⟨t103, t104, t105, t106, t107, t108, t109, t110, t111, t112, t113, t114⟩, A10, H⟩ := H
 replace H : ((worth_Of.f k 1000).bind fun bt116 => ((worth_Text.f k 1 1 3 1 (-2) 0 0 0 0 0 0).bind fun t129 => (if t129.toList = ([49, 101, 51, 32, 109, 49, 115, 45, 50] : List UInt8) then (if t114 = 18 then (if bt116.2.2.2.2.2.2.2.2.2.2.2 = 0 then (some (bt116.1 == 1 && (bt116.2.1 == 1 && (bt116.2.2.1 == 3)))) else (none)) else (none)) else (none)))) = some r := H
 have A1 := Aside0.mk A10
 clear A10
 replace H := Option.bind_eq_some_iff.mp H
 obtain ⟨⟨t116, t117, t118, t119, t120, t121, t122, t123, t124, t125, t126, t127⟩, A20, H⟩ := H
 replace H : ((worth_Text.f k 1 1 3 1 (-2) 0 0 0 0 0 0).bind fun t129 => (if t129.toList = ([49, 101, 51, 32, 109, 49, 115, 45, 50] : List UInt8) then (if t114 = 18 then (if t127 = 0 then (some (t116 == 1 && (t117 == 1 && (t118 == 3)))) else (none)) else (none)) else (none))) = some r := H
 have A2 := Aside0.mk A20
 clear A20
 replace H := Option.bind_eq_some_iff.mp H
 obtain ⟨t129, A30, H⟩ := H
 replace H : (if t129.toList = ([49, 101, 51, 32, 109, 49, 115, 45, 50] : List UInt8) then (if t114 = 18 then (if t127 = 0 then (some (t116 == 1 && (t117 == 1 && (t118 == 3)))) else (none)) else (none)) else (none)) = some r := H
 have A3 := Aside0.mk A30
 clear A30
 by_cases c4 : t129.toList = ([49, 101, 51, 32, 109, 49, 115, 45, 50] : List UInt8)
 ·rw [if_pos c4] at H
  have c4b0 : (t129.toList == ([49, 101, 51, 32, 109, 49, 115, 45, 50] : List UInt8)) = true := beq_iff_eq.mpr c4
  have c4b1 : (t129.toList != ([49, 101, 51, 32, 109, 49, 115, 45, 50] : List UInt8)) = false := bne_eq_false_iff_eq.mpr c4
  clear c4
  by_cases c5 : t114 = 18
  ·rw [if_pos c5] at H
   have c5b0 : (t114 == 18) = true := beq_iff_eq.mpr c5
   have c5b1 : (t114 != 18) = false := bne_eq_false_iff_eq.mpr c5
   clear c5
   by_cases c6 : t127 = 0
   ·rw [if_pos c6] at H
    have c6b0 : (t127 == 0) = true := beq_iff_eq.mpr c6
    have c6b1 : (t127 != 0) = false := bne_eq_false_iff_eq.mpr c6
    clear c6
    obtain rfl := Option.some.inj H
    go_enter Tryd.func9, Tryd.ntmps9
    go_wp2_with (first
     | (go_at_call 13; have hb1_ : Below w.heap.size w ((w.alloc (.cells #[.int .i64 1, .int .i64 1, .int .i64 3, .int .i64 1, .int .i64 (-2), .int .i64 0, .int .i64 0, .int .i64 0, .int .i64 0, .int .i64 0, .int .i64 0] 31)).alloc (.cells #[.int .i64 1, .int .i64 1, .int .i64 3, .int .i64 1, .int .i64 (-2), .int .i64 0, .int .i64 0, .int .i64 0, .int .i64 0, .int .i64 0, .int .i64 1] 31)) := below_alloc (below_alloc (Below.refl _ _) _) _; have hA_ : ((w.alloc (.cells #[.int .i64 1, .int .i64 1, .int .i64 3, .int .i64 1, .int .i64 (-2), .int .i64 0, .int .i64 0, .int .i64 0, .int .i64 0, .int .i64 0, .int .i64 0] 31)).alloc (.cells #[.int .i64 1, .int .i64 1, .int .i64 3, .int .i64 1, .int .i64 (-2), .int .i64 0, .int .i64 0, .int .i64 0, .int .i64 0, .int .i64 0, .int .i64 1] 31)).heap[w.heap.size]? = some (.cells #[.int .i64 1, .int .i64 1, .int .i64 3, .int .i64 1, .int .i64 (-2), .int .i64 0, .int .i64 0, .int .i64 0, .int .i64 0, .int .i64 0, .int .i64 0] 31 (0, 0)) := blk_below (blk_new w (.cells #[.int .i64 1, .int .i64 1, .int .i64 3, .int .i64 1, .int .i64 (-2), .int .i64 0, .int .i64 0, .int .i64 0, .int .i64 0, .int .i64 0, .int .i64 0] 31)) (below_alloc (Below.refl _ _) _); (with_reducible refine (worth_Mul.calls k 1 1 3 1 (-2) 0 0 0 0 0 0 1 1 3 1 (-2) 0 0 0 0 0 1 t103 t104 t105 t106 t107 t108 t109 t110 t111 t112 t113 t114 _ (Glob.use hG (by decide) hb1_) A1.out).mono ?_); rintro e w13 ⟨rfl, hb⟩; have BA := Aside0.mk (blk_below hA_ hb); replace HB := Aside0.mk (below_step hb1_ hb); clear hb hb1_ hA_ A1)
     | ((with_reducible refine gate_dst (N := 3) rfl ?_); refine box_event ?hg (N := 3) ?hd (cs := #[.int .i64 0, .int .i64 0, .int .i64 0, .int .i64 0, .int .i64 0, .int .i64 0, .int .i64 0, .int .i64 0, .int .i64 0, .int .i64 0, .int .i64 0]) (t := 31) ?hr ?_; (case hd => rfl); (case hg => rfl); (case hr => first | (go_simp; done) | (go_simp; rfl)); intro gC hg_ wC_ hbox hb; have GC := Aside0.mk (bsz (bl HB.out) hg_ : w.heap.size ≤ gC); have nAC : w.heap.size ≠ gC := nlt (kp BA.out) hg_; have nCA : gC ≠ w.heap.size := ngt (kp BA.out) hg_; have NAC := Aside0.mk nAC; have NCA := Aside0.mk nCA; replace BA := Aside0.mk (blk_below (kp BA.out) hb); replace HB := Aside0.mk (below_step (bl HB.out) hb); have BC := Aside0.mk hbox; obtain ⟨cC0_, cC1_, cC2_, cC3_, cC4_, cC5_, cC6_, cC7_, cC8_, cC9_, cC10_⟩ := hc11 BC.out; obtain ⟨fC0_, fC1_, fC2_, fC3_, fC4_, fC5_, fC6_, fC7_, fC8_, fC9_, fC10_⟩ := hf11 BC.out; clear hbox hb hg_)
     | (go_at_call 15; (with_reducible refine (worth_Of.calls k 1000 t116 t117 t118 t119 t120 t121 t122 t123 t124 t125 t126 t127 _ (Glob.use hG (by decide) (bl HB.out)) A2.out).mono ?_); rintro e w18 ⟨rfl, hb⟩; replace BA := Aside0.mk (blk_below (kp BA.out) hb); replace HB := Aside0.mk (below_step (bl HB.out) hb); clear hb A2 BC cC0_ cC1_ cC2_ cC3_ cC4_ cC5_ cC6_ cC7_ cC8_ cC9_ cC10_ fC0_ fC1_ fC2_ fC3_ fC4_ fC5_ fC6_ fC7_ fC8_ fC9_ fC10_ nAC nCA NAC NCA GC)
     | ((with_reducible refine gate_dst (N := 5) rfl ?_); refine box_event ?hg (N := 5) ?hd (cs := #[.int .i64 0, .int .i64 0, .int .i64 0, .int .i64 0, .int .i64 0, .int .i64 0, .int .i64 0, .int .i64 0, .int .i64 0, .int .i64 0, .int .i64 0]) (t := 31) ?hr ?_; (case hd => rfl); (case hg => rfl); (case hr => first | (go_simp; done) | (go_simp; rfl)); intro gD hg_ wD_ hbox hb; have GD := Aside0.mk (bsz (bl HB.out) hg_ : w.heap.size ≤ gD); have nAD : w.heap.size ≠ gD := nlt (kp BA.out) hg_; have nDA : gD ≠ w.heap.size := ngt (kp BA.out) hg_; have NAD := Aside0.mk nAD; have NDA := Aside0.mk nDA; replace BA := Aside0.mk (blk_below (kp BA.out) hb); replace HB := Aside0.mk (below_step (bl HB.out) hb); have BD := Aside0.mk hbox; obtain ⟨cD0_, cD1_, cD2_, cD3_, cD4_, cD5_, cD6_, cD7_, cD8_, cD9_, cD10_⟩ := hc11 BD.out; obtain ⟨fD0_, fD1_, fD2_, fD3_, fD4_, fD5_, fD6_, fD7_, fD8_, fD9_, fD10_⟩ := hf11 BD.out; obtain ⟨cA0_, cA1_, cA2_, cA3_, cA4_, cA5_, cA6_, cA7_, cA8_, cA9_, cA10_⟩ := hc11 BA.out; clear hbox hb hg_)
     | (go_at_call 11; (with_reducible refine (worth_Text.calls k 1 1 3 1 (-2) 0 0 0 0 0 0 t129 _ (Glob.use hG (by decide) (bl HB.out)) A3.out).mono ?_); rintro e w25 ⟨rfl, hb⟩; replace BA := Aside0.mk (blk_below (kp BA.out) hb); replace BD := Aside0.mk (blk_below (put11 (kp BD.out)) hb); replace HB := Aside0.mk (below_step (bl HB.out) hb); clear hb A3 cD0_ cD1_ cD2_ cD3_ cD4_ cD5_ cD6_ cD7_ cD8_ cD9_ cD10_ fD0_ fD1_ fD2_ fD3_ fD4_ fD5_ fD6_ fD7_ fD8_ fD9_ fD10_ cA0_ cA1_ cA2_ cA3_ cA4_ cA5_ cA6_ cA7_ cA8_ cA9_ cA10_; obtain ⟨cA0_, cA1_, cA2_, cA3_, cA4_, cA5_, cA6_, cA7_, cA8_, cA9_, cA10_⟩ := hc11 BA.out; obtain ⟨cD0_, cD1_, cD2_, cD3_, cD4_, cD5_, cD6_, cD7_, cD8_, cD9_, cD10_⟩ := hc11 BD.out))
    go_ret
    exact ⟨by first | rfl | (simp [errW_none, errW_some] <;> rfl) | (simp [*, errW_none, errW_some] <;> rfl), bl HB.out⟩
   ·rw [if_neg c6] at H
    exact absurd H (by simp)
  ·rw [if_neg c5] at H
   exact absurd H (by simp)
 ·rw [if_neg c4] at H
  exact absurd H (by simp)

end Go.Proofs.YthfibffgmoblaaaDoor.PQ

