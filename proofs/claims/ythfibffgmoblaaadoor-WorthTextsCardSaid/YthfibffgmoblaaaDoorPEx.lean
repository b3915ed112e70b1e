/- Printed by a program of this session (wip/tools/prt.py) out of the translation: plain functions, and that the calls come to just them. No conditions beyond those that stand in each theorem. -/
import Derived.Test.YthfibffgmoblaaaDoorWw
import Derived.Test.YthfibffgmoblaaaDoorSq
import Derived.Test.YthfibffgmoblaaaDoorProg
import Derived.Below
import Derived.Deep.Draws
import Derived.Deep.AppendLies
import Derived.Maps.AppendAt
import Derived.OwnWalk
import Derived.Laws.BytesArg
import Derived.Laws.MakeOwn
import Derived.Laws.OwnMore
import Derived.Deep.OwnRows
import Derived.Tactics
import Derived.Lib.ConvBytes
import Derived.Laws.Slices
import Derived.WalkKit
import Derived.KernelRfl
import Derived.RowKit3
import Derived.Deep.LoopGhost
import Derived.Deep.QuietTactic
import Derived.BigQuiet
import Derived.WideLaws
import Derived.Deep.DeepCutAuto
import Derived.Deep.CutBlock
import Derived.Deep.RegionHeld3
import Derived.Laws.Rows
import Derived.Lib.AppendStr
import Derived.ArgAppend
import Derived.Laws.IdiomCopy
import Derived.OrdersHeld
import Derived.Laws.BitsLemmas
import Derived.RowKit
import Derived.Test.YthfibffgmoblaaaDoorGlob
import Derived.Test.YthfibffgmoblaaaDoorPBx
namespace Go.Proofs.YthfibffgmoblaaaDoor.PE
open Go.Proofs.YthfibffgmoblaaaDoor.Sq Go.RowKit Go.Proofs.YthfibffgmoblaaaDoorW.PrintWords Go.Proofs.YthfibffgmoblaaaDoorW.PrintLast Go.Proofs.YthfibffgmoblaaaDoorW.PrintMore Go.Proofs.YthfibffgmoblaaaDoor.PB
attribute [local go_sem] max2_int min2_int max_two min_two max_three min_three max_four min_four   -- for this text's walks alone
set_option linter.unusedVariables false
set_option linter.unusedSimpArgs false

theorem arr_cell {w : World} {g : Nat} {e : Int → Value} (o z : Nat) (l : List Int) (j : Int) (h : ∀ i, i < l.length → w.cell? ⟨g, o + i * z, none⟩ = some (e (l.getD i 0))) (h0 : 0 ≤ j) (hj : j < (l.length : Int)) : w.cell? ⟨g, o + j.toNat * z, none⟩ = some (e (rd l j)) := h j.toNat (by omega)
theorem arr_cell1 {w : World} {g : Nat} {e : Int → Value} (l : List Int) (j : Int) (h : ∀ i, i < l.length → w.cell? ⟨g, i, none⟩ = some (e (l.getD i 0))) (h0 : 0 ≤ j) (hj : j < (l.length : Int)) : w.cell? ⟨g, j.toNat, none⟩ = some (e (rd l j)) := h j.toNat (by omega)
theorem arr_cell2 {w : World} {g : Nat} {e : Int → Value} (z : Nat) (l : List Int) (j : Int) (h : ∀ i, i < l.length → w.cell? ⟨g, i * z, none⟩ = some (e (l.getD i 0))) (h0 : 0 ≤ j) (hj : j < (l.length : Int)) : w.cell? ⟨g, j.toNat * z, none⟩ = some (e (rd l j)) := h j.toNat (by omega)


def errW : Option Int → Value
 | none => .nilIface
 | some c => .iface 0 (.int .i64 c)
theorem errW_none : errW none = .nilIface := rfl
theorem errW_some (c : Int) : errW (some c) = .iface 0 (.int .i64 c) := rfl

theorem info5 : (Tryd.prog.info? 5).map (fun i => (i.zero, i.size, i.bytes)) = some (some (.int .u8 0), 1, 1) := by kernel_rfl
-- the values' own types

end Go.Proofs.YthfibffgmoblaaaDoor.PE

namespace Go.Proofs.YthfibffgmoblaaaDoor.PE
open Go.Proofs.YthfibffgmoblaaaDoor.Sq Go.RowKit Go.Proofs.YthfibffgmoblaaaDoorW.PrintWords Go.Proofs.YthfibffgmoblaaaDoorW.PrintLast Go.Proofs.YthfibffgmoblaaaDoorW.PrintMore Go.Proofs.YthfibffgmoblaaaDoor.PB
attribute [local go_sem] max2_int min2_int max_two min_two max_three min_three max_four min_four   -- for this text's walks alone
set_option linter.unusedVariables false
set_option linter.unusedSimpArgs false

/-! ### drachmref02_Right: function 24 -/
def drachmref02_Right.f (k : Nat) (a0_0 : Int) (a0_1 : Int) (a0_2 : Int) : Option (Bool) := (drachmref01_Fits.f a0_0).bind fun t102 => (if a0_0 = 0 then (if a0_1 = 1 then (some (a0_2 == 0)) else (some false)) else (if t102 = true then (if a0_1 ≥ 1 then (if (Int.tmod a0_1 2) = 0 then (some false) else (if (Int.tmod a0_1 5) = 0 then (some false) else (if (Int.tmod a0_0 10) = 0 then (some false) else ((drachmref01_Gcd.f k a0_0 a0_1).bind fun t103 => (if t103 = 1 then (if a0_2 ≥ (-1000) then (some (decide (a0_2 ≤ 1000))) else (some false)) else (some false)))))) else (some false)) else (some false)))
theorem drachmref02_Right.mono : ∀ a0 a1 a2 k, LeO (drachmref02_Right.f k a0 a1 a2) (drachmref02_Right.f (k + 1) a0 a1 a2) := by
 intro a0 a1 a2 k
 unfold drachmref02_Right.f
 repeat' first
   | (with_reducible exact drachmref01_Gcd.mono _ _ _)
   | (with_reducible exact LeO.refl _)
   | (with_reducible exact LeO.none _)
   | (with_reducible refine LeO.ite ?_ ?_)
   | (with_reducible refine LeO.bind ?_ (fun _ => ?_))
   | exact drachmref01_Gcd.mono _ _ _
   | exact LeO.none _
   | refine LeO.ite ?_ ?_
   | refine LeO.bind ?_ (fun _ => ?_)
set_option maxHeartbeats 8000000 in
set_option maxRecDepth 100000 in
theorem drachmref02_Right.calls (k : Nat) (a0_0 : Int) (a0_1 : Int) (a0_2 : Int) (r : Bool) (w : World) (h : drachmref02_Right.f k a0_0 a0_1 a0_2 = some r) :
  Calls Tryd.prog 24 #[.agg #[.int .i64 a0_0, .int .i64 a0_1, .int .i64 a0_2]] w fun e w' => e = .returned (.bool r) ∧ Below w.heap.size w w' := by
 have hu29 := Tryd.underlying29
 have HB := Aside0.mk (Below.refl w.heap.size w)
 have H : ((drachmref01_Fits.f a0_0).bind fun t102 => (if a0_0 = 0 then (if a0_1 = 1 then (some (a0_2 == 0)) else (some false)) else (if t102 = true then (if a0_1 ≥ 1 then (if (Int.tmod a0_1 2) = 0 then (some false) else (if (Int.tmod a0_1 5) = 0 then (some false) else (if (Int.tmod a0_0 10) = 0 then (some false) else ((drachmref01_Gcd.f k a0_0 a0_1).bind fun t103 => (if t103 = 1 then (if a0_2 ≥ (-1000) then (some (decide (a0_2 ≤ 1000))) else (some false)) else (some false)))))) else (some false)) else (some false)))) = some r := h
 clear h
 replace H := Option.bind_eq_some_iff.mp H
 obtain ⟨t102, A20, H⟩ := H
 replace H : (if a0_0 = 0 then (if a0_1 = 1 then (some (a0_2 == 0)) else (some false)) else (if t102 = true then (if a0_1 ≥ 1 then (if (Int.tmod a0_1 2) = 0 then (some false) else (if (Int.tmod a0_1 5) = 0 then (some false) else (if (Int.tmod a0_0 10) = 0 then (some false) else ((drachmref01_Gcd.f k a0_0 a0_1).bind fun t103 => (if t103 = 1 then (if a0_2 ≥ (-1000) then (some (decide (a0_2 ≤ 1000))) else (some false)) else (some false)))))) else (some false)) else (some false))) = some r := H
 have A2 := Aside0.mk A20
 clear A20
 by_cases c3 : a0_0 = 0
 ·rw [if_pos c3] at H
  have c3b0 : (a0_0 == 0) = true := beq_iff_eq.mpr c3
  have c3b1 : (a0_0 != 0) = false := bne_eq_false_iff_eq.mpr c3
  clear c3
  by_cases c4 : a0_1 = 1
  ·rw [if_pos c4] at H
   have c4b0 : (a0_1 == 1) = true := beq_iff_eq.mpr c4
   have c4b1 : (a0_1 != 1) = false := bne_eq_false_iff_eq.mpr c4
   clear c4
   obtain rfl := Option.some.inj H
   go_enter Tryd.func24, Tryd.ntmps24
   go_wp2_with (first | ((with_reducible refine gate_dst (N := 1) rfl ?_); refine box_event ?hg (N := 1) ?hd (cs := #[.int .i64 a0_0, .int .i64 a0_1, .int .i64 a0_2]) (t := 29) ?hr ?_; (case hd => rfl); (case hg => rfl); (case hr => first | (go_simp; done) | (go_simp; rfl)); intro gb101 hg w5 hbox hb; have n0_ := sb HB hb; have n1_ := Aside0.mk (hbox); have n2_ := Aside0.mk ((by rw [hg]; exact (below_size (bl HB.out)) : w.heap.size ≤ gb101)); have n3_ := Aside0.mk ((by rw [hg]; exact (below_size (bl HB.out)) : w.heap.size ≤ gb101)); clear HB; have HB := n0_; have BK101 := n1_; have GW101 := n2_; have GE101 := n3_; clear n0_ n1_ n2_ n3_; clear hb hbox hg; obtain ⟨hcz6_0, hcz6_1, hcz6_2⟩ := hc3 BK101.out; obtain ⟨hfz6_0, hfz6_1, hfz6_2⟩ := hf3 BK101.out) | (go_at_call 49; (with_reducible refine (drachmref01_Fits.calls a0_0 t102 _ A2.out).mono ?_); rintro e w' ⟨rfl, ⟨nd, rfl⟩⟩))
   go_ret
   exact ⟨by first | rfl | (simp [errW_none, errW_some] <;> rfl) | (simp [*, errW_none, errW_some] <;> rfl), bl HB.out⟩
  ·rw [if_neg c4] at H
   have c4b0 : (a0_1 == 1) = false := beq_eq_false_iff_ne.mpr c4
   have c4b1 : (a0_1 != 1) = true := bne_iff_ne.mpr c4
   obtain rfl := Option.some.inj H
   go_enter Tryd.func24, Tryd.ntmps24
   go_wp2_with (first | ((with_reducible refine gate_dst (N := 1) rfl ?_); refine box_event ?hg (N := 1) ?hd (cs := #[.int .i64 a0_0, .int .i64 a0_1, .int .i64 a0_2]) (t := 29) ?hr ?_; (case hd => rfl); (case hg => rfl); (case hr => first | (go_simp; done) | (go_simp; rfl)); intro gb101 hg w7 hbox hb; have n0_ := sb HB hb; have n1_ := Aside0.mk (hbox); have n2_ := Aside0.mk ((by rw [hg]; exact (below_size (bl HB.out)) : w.heap.size ≤ gb101)); have n3_ := Aside0.mk ((by rw [hg]; exact (below_size (bl HB.out)) : w.heap.size ≤ gb101)); clear HB; have HB := n0_; have BK101 := n1_; have GW101 := n2_; have GE101 := n3_; clear n0_ n1_ n2_ n3_; clear hb hbox hg; obtain ⟨hcz8_0, hcz8_1, hcz8_2⟩ := hc3 BK101.out; obtain ⟨hfz8_0, hfz8_1, hfz8_2⟩ := hf3 BK101.out) | (go_at_call 49; (with_reducible refine (drachmref01_Fits.calls a0_0 t102 _ A2.out).mono ?_); rintro e w' ⟨rfl, ⟨nd, rfl⟩⟩))
   go_ret
   exact ⟨by first | rfl | (simp [errW_none, errW_some] <;> rfl) | (simp [*, errW_none, errW_some] <;> rfl), bl HB.out⟩
 ·rw [if_neg c3] at H
  have c3b0 : (a0_0 == 0) = false := beq_eq_false_iff_ne.mpr c3
  have c3b1 : (a0_0 != 0) = true := bne_iff_ne.mpr c3
  by_cases c9 : t102 = true
  ·subst c9
   have H1 : (if a0_1 ≥ 1 then (if (Int.tmod a0_1 2) = 0 then (some false) else (if (Int.tmod a0_1 5) = 0 then (some false) else (if (Int.tmod a0_0 10) = 0 then (some false) else ((drachmref01_Gcd.f k a0_0 a0_1).bind fun t103 => (if t103 = 1 then (if a0_2 ≥ (-1000) then (some (decide (a0_2 ≤ 1000))) else (some false)) else (some false)))))) else (some false)) = some r := by rw [if_pos rfl] at H; exact H
   clear H
   have H := H1
   clear H1
   by_cases c10 : a0_1 ≥ 1
   ·rw [if_pos c10] at H
    have c10b0 : decide (1 ≤ a0_1) = true := decide_eq_true c10
    clear c10
    by_cases c11 : (Int.tmod a0_1 2) = 0
    ·rw [if_pos c11] at H
     have c11b0 : ((Int.tmod a0_1 2) == 0) = true := beq_iff_eq.mpr c11
     have c11b1 : ((Int.tmod a0_1 2) != 0) = false := bne_eq_false_iff_eq.mpr c11
     clear c11
     obtain rfl := Option.some.inj H
     go_enter Tryd.func24, Tryd.ntmps24
     go_wp2_with (first | ((with_reducible refine gate_dst (N := 1) rfl ?_); refine box_event ?hg (N := 1) ?hd (cs := #[.int .i64 a0_0, .int .i64 a0_1, .int .i64 a0_2]) (t := 29) ?hr ?_; (case hd => rfl); (case hg => rfl); (case hr => first | (go_simp; done) | (go_simp; rfl)); intro gb101 hg w12 hbox hb; have n0_ := sb HB hb; have n1_ := Aside0.mk (hbox); have n2_ := Aside0.mk ((by rw [hg]; exact (below_size (bl HB.out)) : w.heap.size ≤ gb101)); have n3_ := Aside0.mk ((by rw [hg]; exact (below_size (bl HB.out)) : w.heap.size ≤ gb101)); clear HB; have HB := n0_; have BK101 := n1_; have GW101 := n2_; have GE101 := n3_; clear n0_ n1_ n2_ n3_; clear hb hbox hg; obtain ⟨hcz13_0, hcz13_1, hcz13_2⟩ := hc3 BK101.out; obtain ⟨hfz13_0, hfz13_1, hfz13_2⟩ := hf3 BK101.out) | (go_at_call 49; (with_reducible refine (drachmref01_Fits.calls a0_0 true _ A2.out).mono ?_); rintro e w' ⟨rfl, ⟨nd, rfl⟩⟩))
     go_ret
     exact ⟨by first | rfl | (simp [errW_none, errW_some] <;> rfl) | (simp [*, errW_none, errW_some] <;> rfl), bl HB.out⟩
    ·rw [if_neg c11] at H
     have c11b0 : ((Int.tmod a0_1 2) == 0) = false := beq_eq_false_iff_ne.mpr c11
     have c11b1 : ((Int.tmod a0_1 2) != 0) = true := bne_iff_ne.mpr c11
     by_cases c14 : (Int.tmod a0_1 5) = 0
     ·rw [if_pos c14] at H
      have c14b0 : ((Int.tmod a0_1 5) == 0) = true := beq_iff_eq.mpr c14
      have c14b1 : ((Int.tmod a0_1 5) != 0) = false := bne_eq_false_iff_eq.mpr c14
      clear c14
      obtain rfl := Option.some.inj H
      go_enter Tryd.func24, Tryd.ntmps24
      go_wp2_with (first | ((with_reducible refine gate_dst (N := 1) rfl ?_); refine box_event ?hg (N := 1) ?hd (cs := #[.int .i64 a0_0, .int .i64 a0_1, .int .i64 a0_2]) (t := 29) ?hr ?_; (case hd => rfl); (case hg => rfl); (case hr => first | (go_simp; done) | (go_simp; rfl)); intro gb101 hg w15 hbox hb; have n0_ := sb HB hb; have n1_ := Aside0.mk (hbox); have n2_ := Aside0.mk ((by rw [hg]; exact (below_size (bl HB.out)) : w.heap.size ≤ gb101)); have n3_ := Aside0.mk ((by rw [hg]; exact (below_size (bl HB.out)) : w.heap.size ≤ gb101)); clear HB; have HB := n0_; have BK101 := n1_; have GW101 := n2_; have GE101 := n3_; clear n0_ n1_ n2_ n3_; clear hb hbox hg; obtain ⟨hcz16_0, hcz16_1, hcz16_2⟩ := hc3 BK101.out; obtain ⟨hfz16_0, hfz16_1, hfz16_2⟩ := hf3 BK101.out) | (go_at_call 49; (with_reducible refine (drachmref01_Fits.calls a0_0 true _ A2.out).mono ?_); rintro e w' ⟨rfl, ⟨nd, rfl⟩⟩))
      go_ret
      exact ⟨by first | rfl | (simp [errW_none, errW_some] <;> rfl) | (simp [*, errW_none, errW_some] <;> rfl), bl HB.out⟩
     ·rw [if_neg c14] at H
      have c14b0 : ((Int.tmod a0_1 5) == 0) = false := beq_eq_false_iff_ne.mpr c14
      have c14b1 : ((Int.tmod a0_1 5) != 0) = true := bne_iff_ne.mpr c14
      by_cases c17 : (Int.tmod a0_0 10) = 0
      ·rw [if_pos c17] at H
       have c17b0 : ((Int.tmod a0_0 10) == 0) = true := beq_iff_eq.mpr c17
       have c17b1 : ((Int.tmod a0_0 10) != 0) = false := bne_eq_false_iff_eq.mpr c17
       clear c17
       obtain rfl := Option.some.inj H
       go_enter Tryd.func24, Tryd.ntmps24
       go_wp2_with (first | ((with_reducible refine gate_dst (N := 1) rfl ?_); refine box_event ?hg (N := 1) ?hd (cs := #[.int .i64 a0_0, .int .i64 a0_1, .int .i64 a0_2]) (t := 29) ?hr ?_; (case hd => rfl); (case hg => rfl); (case hr => first | (go_simp; done) | (go_simp; rfl)); intro gb101 hg w18 hbox hb; have n0_ := sb HB hb; have n1_ := Aside0.mk (hbox); have n2_ := Aside0.mk ((by rw [hg]; exact (below_size (bl HB.out)) : w.heap.size ≤ gb101)); have n3_ := Aside0.mk ((by rw [hg]; exact (below_size (bl HB.out)) : w.heap.size ≤ gb101)); clear HB; have HB := n0_; have BK101 := n1_; have GW101 := n2_; have GE101 := n3_; clear n0_ n1_ n2_ n3_; clear hb hbox hg; obtain ⟨hcz19_0, hcz19_1, hcz19_2⟩ := hc3 BK101.out; obtain ⟨hfz19_0, hfz19_1, hfz19_2⟩ := hf3 BK101.out) | (go_at_call 49; (with_reducible refine (drachmref01_Fits.calls a0_0 true _ A2.out).mono ?_); rintro e w' ⟨rfl, ⟨nd, rfl⟩⟩))
       go_ret
       exact ⟨by first | rfl | (simp [errW_none, errW_some] <;> rfl) | (simp [*, errW_none, errW_some] <;> rfl), bl HB.out⟩
      ·rw [if_neg c17] at H
       have c17b0 : ((Int.tmod a0_0 10) == 0) = false := beq_eq_false_iff_ne.mpr c17
       have c17b1 : ((Int.tmod a0_0 10) != 0) = true := bne_iff_ne.mpr c17
       replace H := Option.bind_eq_some_iff.mp H
       obtain ⟨t103, A200, H⟩ := H
       replace H : (if t103 = 1 then (if a0_2 ≥ (-1000) then (some (decide (a0_2 ≤ 1000))) else (some false)) else (some false)) = some r := H
       have A20 := Aside0.mk A200
       clear A200
       by_cases c21 : t103 = 1
       ·rw [if_pos c21] at H
        have c21b0 : (t103 == 1) = true := beq_iff_eq.mpr c21
        have c21b1 : (t103 != 1) = false := bne_eq_false_iff_eq.mpr c21
        clear c21
        by_cases c22 : a0_2 ≥ (-1000)
        ·rw [if_pos c22] at H
         have c22b0 : decide ((-1000) ≤ a0_2) = true := decide_eq_true c22
         clear c22
         obtain rfl := Option.some.inj H
         go_enter Tryd.func24, Tryd.ntmps24
         go_wp2_with (first | ((with_reducible refine gate_dst (N := 1) rfl ?_); refine box_event ?hg (N := 1) ?hd (cs := #[.int .i64 a0_0, .int .i64 a0_1, .int .i64 a0_2]) (t := 29) ?hr ?_; (case hd => rfl); (case hg => rfl); (case hr => first | (go_simp; done) | (go_simp; rfl)); intro gb101 hg w23 hbox hb; have n0_ := sb HB hb; have n1_ := Aside0.mk (hbox); have n2_ := Aside0.mk ((by rw [hg]; exact (below_size (bl HB.out)) : w.heap.size ≤ gb101)); have n3_ := Aside0.mk ((by rw [hg]; exact (below_size (bl HB.out)) : w.heap.size ≤ gb101)); clear HB; have HB := n0_; have BK101 := n1_; have GW101 := n2_; have GE101 := n3_; clear n0_ n1_ n2_ n3_; clear hb hbox hg; obtain ⟨hcz24_0, hcz24_1, hcz24_2⟩ := hc3 BK101.out; obtain ⟨hfz24_0, hfz24_1, hfz24_2⟩ := hf3 BK101.out) | (go_at_call 49; (with_reducible refine (drachmref01_Fits.calls a0_0 true _ A2.out).mono ?_); rintro e w' ⟨rfl, ⟨nd, rfl⟩⟩) | (go_at_call 58; (with_reducible refine (drachmref01_Gcd.calls k a0_0 a0_1 t103 _ A20.out).mono ?_); rintro e w' ⟨rfl, ⟨nd, rfl⟩⟩))
         go_ret
         exact ⟨by first | rfl | (simp [errW_none, errW_some] <;> rfl) | (simp [*, errW_none, errW_some] <;> rfl), bl HB.out⟩
        ·rw [if_neg c22] at H
         have c22b0 : decide ((-1000) ≤ a0_2) = false := decide_eq_false c22
         clear c22
         obtain rfl := Option.some.inj H
         go_enter Tryd.func24, Tryd.ntmps24
         go_wp2_with (first | ((with_reducible refine gate_dst (N := 1) rfl ?_); refine box_event ?hg (N := 1) ?hd (cs := #[.int .i64 a0_0, .int .i64 a0_1, .int .i64 a0_2]) (t := 29) ?hr ?_; (case hd => rfl); (case hg => rfl); (case hr => first | (go_simp; done) | (go_simp; rfl)); intro gb101 hg w25 hbox hb; have n0_ := sb HB hb; have n1_ := Aside0.mk (hbox); have n2_ := Aside0.mk ((by rw [hg]; exact (below_size (bl HB.out)) : w.heap.size ≤ gb101)); have n3_ := Aside0.mk ((by rw [hg]; exact (below_size (bl HB.out)) : w.heap.size ≤ gb101)); clear HB; have HB := n0_; have BK101 := n1_; have GW101 := n2_; have GE101 := n3_; clear n0_ n1_ n2_ n3_; clear hb hbox hg; obtain ⟨hcz26_0, hcz26_1, hcz26_2⟩ := hc3 BK101.out; obtain ⟨hfz26_0, hfz26_1, hfz26_2⟩ := hf3 BK101.out) | (go_at_call 49; (with_reducible refine (drachmref01_Fits.calls a0_0 true _ A2.out).mono ?_); rintro e w' ⟨rfl, ⟨nd, rfl⟩⟩) | (go_at_call 58; (with_reducible refine (drachmref01_Gcd.calls k a0_0 a0_1 t103 _ A20.out).mono ?_); rintro e w' ⟨rfl, ⟨nd, rfl⟩⟩))
         go_ret
         exact ⟨by first | rfl | (simp [errW_none, errW_some] <;> rfl) | (simp [*, errW_none, errW_some] <;> rfl), bl HB.out⟩
       ·rw [if_neg c21] at H
        have c21b0 : (t103 == 1) = false := beq_eq_false_iff_ne.mpr c21
        have c21b1 : (t103 != 1) = true := bne_iff_ne.mpr c21
        obtain rfl := Option.some.inj H
        go_enter Tryd.func24, Tryd.ntmps24
        go_wp2_with (first | ((with_reducible refine gate_dst (N := 1) rfl ?_); refine box_event ?hg (N := 1) ?hd (cs := #[.int .i64 a0_0, .int .i64 a0_1, .int .i64 a0_2]) (t := 29) ?hr ?_; (case hd => rfl); (case hg => rfl); (case hr => first | (go_simp; done) | (go_simp; rfl)); intro gb101 hg w27 hbox hb; have n0_ := sb HB hb; have n1_ := Aside0.mk (hbox); have n2_ := Aside0.mk ((by rw [hg]; exact (below_size (bl HB.out)) : w.heap.size ≤ gb101)); have n3_ := Aside0.mk ((by rw [hg]; exact (below_size (bl HB.out)) : w.heap.size ≤ gb101)); clear HB; have HB := n0_; have BK101 := n1_; have GW101 := n2_; have GE101 := n3_; clear n0_ n1_ n2_ n3_; clear hb hbox hg; obtain ⟨hcz28_0, hcz28_1, hcz28_2⟩ := hc3 BK101.out; obtain ⟨hfz28_0, hfz28_1, hfz28_2⟩ := hf3 BK101.out) | (go_at_call 49; (with_reducible refine (drachmref01_Fits.calls a0_0 true _ A2.out).mono ?_); rintro e w' ⟨rfl, ⟨nd, rfl⟩⟩) | (go_at_call 58; (with_reducible refine (drachmref01_Gcd.calls k a0_0 a0_1 t103 _ A20.out).mono ?_); rintro e w' ⟨rfl, ⟨nd, rfl⟩⟩))
        go_ret
        exact ⟨by first | rfl | (simp [errW_none, errW_some] <;> rfl) | (simp [*, errW_none, errW_some] <;> rfl), bl HB.out⟩
   ·rw [if_neg c10] at H
    have c10b0 : decide (1 ≤ a0_1) = false := decide_eq_false c10
    clear c10
    obtain rfl := Option.some.inj H
    go_enter Tryd.func24, Tryd.ntmps24
    go_wp2_with (first | ((with_reducible refine gate_dst (N := 1) rfl ?_); refine box_event ?hg (N := 1) ?hd (cs := #[.int .i64 a0_0, .int .i64 a0_1, .int .i64 a0_2]) (t := 29) ?hr ?_; (case hd => rfl); (case hg => rfl); (case hr => first | (go_simp; done) | (go_simp; rfl)); intro gb101 hg w29 hbox hb; have n0_ := sb HB hb; have n1_ := Aside0.mk (hbox); have n2_ := Aside0.mk ((by rw [hg]; exact (below_size (bl HB.out)) : w.heap.size ≤ gb101)); have n3_ := Aside0.mk ((by rw [hg]; exact (below_size (bl HB.out)) : w.heap.size ≤ gb101)); clear HB; have HB := n0_; have BK101 := n1_; have GW101 := n2_; have GE101 := n3_; clear n0_ n1_ n2_ n3_; clear hb hbox hg; obtain ⟨hcz30_0, hcz30_1, hcz30_2⟩ := hc3 BK101.out; obtain ⟨hfz30_0, hfz30_1, hfz30_2⟩ := hf3 BK101.out) | (go_at_call 49; (with_reducible refine (drachmref01_Fits.calls a0_0 true _ A2.out).mono ?_); rintro e w' ⟨rfl, ⟨nd, rfl⟩⟩))
    go_ret
    exact ⟨by first | rfl | (simp [errW_none, errW_some] <;> rfl) | (simp [*, errW_none, errW_some] <;> rfl), bl HB.out⟩
  ·replace c9 := Bool.eq_false_iff.mpr c9
   subst c9
   have H1 : (some false) = some r := by rw [if_neg (show ¬ (false = true) by decide)] at H; exact H
   clear H
   have H := H1
   clear H1
   obtain rfl := Option.some.inj H
   go_enter Tryd.func24, Tryd.ntmps24
   go_wp2_with (first | ((with_reducible refine gate_dst (N := 1) rfl ?_); refine box_event ?hg (N := 1) ?hd (cs := #[.int .i64 a0_0, .int .i64 a0_1, .int .i64 a0_2]) (t := 29) ?hr ?_; (case hd => rfl); (case hg => rfl); (case hr => first | (go_simp; done) | (go_simp; rfl)); intro gb101 hg w31 hbox hb; have n0_ := sb HB hb; have n1_ := Aside0.mk (hbox); have n2_ := Aside0.mk ((by rw [hg]; exact (below_size (bl HB.out)) : w.heap.size ≤ gb101)); have n3_ := Aside0.mk ((by rw [hg]; exact (below_size (bl HB.out)) : w.heap.size ≤ gb101)); clear HB; have HB := n0_; have BK101 := n1_; have GW101 := n2_; have GE101 := n3_; clear n0_ n1_ n2_ n3_; clear hb hbox hg; obtain ⟨hcz32_0, hcz32_1, hcz32_2⟩ := hc3 BK101.out; obtain ⟨hfz32_0, hfz32_1, hfz32_2⟩ := hf3 BK101.out) | (go_at_call 49; (with_reducible refine (drachmref01_Fits.calls a0_0 false _ A2.out).mono ?_); rintro e w' ⟨rfl, ⟨nd, rfl⟩⟩))
   go_ret
   exact ⟨by first | rfl | (simp [errW_none, errW_some] <;> rfl) | (simp [*, errW_none, errW_some] <;> rfl), bl HB.out⟩

/-! ### drachmref02_digits: function 26 -/
def drachmref02_digits.l0 : Nat → Int → ByteArray → Option (ByteArray)
 | 0, _, _ => none
 | k + 1, x0, x3 => if x0 ≥ 10 then ((some (([(wrap64 (48 + (Int.tmod x0 10))) % 256] : List Int) : List Int)).bind fun y104 => (if (strOfNums y104).size + x3.size ≤ 9223372036854775807 then (drachmref02_digits.l0 k (wrap64 (Int.tdiv x0 10)) ((strOfNums y104) ++ x3)) else (none))) else ((some (([(wrap64 (48 + x0)) % 256] : List Int) : List Int)).bind fun y107 => (if (strOfNums y107).size + x3.size ≤ 9223372036854775807 then (some ((strOfNums y107) ++ x3)) else (none)))
def drachmref02_digits.f (k : Nat) (a0 : Int) : Option (ByteArray) := drachmref02_digits.l0 k a0 (⟨#[]⟩ : ByteArray)
theorem drachmref02_digits.mono_l : ∀ k, (∀ y0 y1, LeO (drachmref02_digits.l0 k y0 y1) (drachmref02_digits.l0 (k + 1) y0 y1))
 | 0 => fun _ _ r h => by simp [drachmref02_digits.l0] at h
 | k + 1 => by
  have ih0 := drachmref02_digits.mono_l k
  ·intro y0 y1
   unfold drachmref02_digits.l0
   repeat' first
   | (with_reducible exact ih0 _ _)
   | (with_reducible exact LeO.refl _)
   | (with_reducible exact LeO.none _)
   | (with_reducible refine LeO.ite ?_ ?_)
   | (with_reducible refine LeO.bind ?_ (fun _ => ?_))
   | exact ih0 _ _
   | exact LeO.none _
   | refine LeO.ite ?_ ?_
   | refine LeO.bind ?_ (fun _ => ?_)
theorem drachmref02_digits.mono : ∀ a0 k, LeO (drachmref02_digits.f k a0) (drachmref02_digits.f (k + 1) a0) := by
 intro a0 k
 have ih0 := drachmref02_digits.mono_l k
 unfold drachmref02_digits.f
 repeat' first
   | (with_reducible exact ih0 _ _)
   | (with_reducible exact LeO.refl _)
   | (with_reducible exact LeO.none _)
   | (with_reducible refine LeO.ite ?_ ?_)
   | (with_reducible refine LeO.bind ?_ (fun _ => ?_))
   | exact ih0 _ _
   | exact LeO.none _
   | refine LeO.ite ?_ ?_
   | refine LeO.bind ?_ (fun _ => ?_)
set_option maxHeartbeats 8000000 in
set_option maxRecDepth 100000 in
theorem drachmref02_digits.calls (k : Nat) (a0 : Int) (r : ByteArray) (w : World) (h : drachmref02_digits.f k a0 = some r) :
  Calls Tryd.prog 26 #[.int .i64 a0] w fun e w' => e = .returned (.string r) ∧ Below w.heap.size w w' := by
 have HB := Aside0.mk (Below.refl w.heap.size w)
 have H : (drachmref02_digits.l0 k a0 (⟨#[]⟩ : ByteArray)) = some r := h
 clear h
 have H' := Aside0.mk H
 clear H
 go_enter Tryd.func26, Tryd.ntmps26
 go_wp2
 go_loopg [0, 3] k (fun kq v0 v3 w' => ∃ (x0_1 : Int) (x3_1 : ByteArray), v0 = .int .i64 x0_1 ∧ v3 = .string x3_1 ∧ Aside0 (drachmref02_digits.l0 kq x0_1 x3_1 = some r) ∧ Aside0 (kq ≤ k) ∧ Aside0 (Below w.heap.size w w'))
 case atStart => exact ⟨(a0), ((⟨#[]⟩ : ByteArray)), (by first | rfl | (simp; done) | (simp [*]; done)), (by first | rfl | (simp; done) | (simp [*]; done)), H', ⟨Nat.le_refl _⟩, ⟨bl HB.out⟩⟩
 case round =>
  clear H'
  obtain ⟨x0_1, x3_1, rfl, rfl, HA, HK1, HB⟩ := hrel
  cases gk with
  | zero => exact absurd HA.out (by simp [drachmref02_digits.l0])
  | succ k1 =>
   have H := HA.out
   clear HA
   simp only [drachmref02_digits.l0] at H
   by_cases c2 : x0_1 ≥ 10
   ·rw [if_pos c2] at H
    have c2b0 : decide (10 ≤ x0_1) = true := decide_eq_true c2
    clear c2
    obtain ⟨y104, hy104⟩ : ∃ y_ : List Int, y_ = (([(wrap64 (48 + (Int.tmod x0_1 10))) % 256] : List Int)) := ⟨_, rfl⟩
    replace H : (if (strOfNums y104).size + x3_1.size ≤ 9223372036854775807 then (drachmref02_digits.l0 k1 (wrap64 (Int.tdiv x0_1 10)) ((strOfNums y104) ++ x3_1)) else (none)) = some r := by first | (rw [hy104]; with_reducible exact H) | (have H2_ := (Option.bind_some _ _).symm.trans H; rw [hy104]; with_reducible exact H2_) | (have H2_ := (Option.bind_some _ _).symm.trans H; with_reducible exact H2_) | with_reducible exact H | (rw [hy104]; exact H) | exact H
    have Ny104 := Aside0.mk hy104
    clear hy104
    by_cases c3 : (strOfNums y104).size + x3_1.size ≤ 9223372036854775807
    ·rw [if_pos c3] at H
     have c3b0 := eq_true c3
     have c3b1 : decide ((strOfNums y104).size + x3_1.size ≤ 9223372036854775807) = true := decide_eq_true c3
     try have c3b2 : (9223372036854775807 < (strOfNums y104).size + x3_1.size) = False := eq_false (Nat.not_lt.2 c3)
     have H' := Aside0.mk H
     clear H
     go_wp2_with (first | ((with_reducible refine gate_dst (N := 10) rfl ?_); refine Kd.R_lit (Kd.int .u8) _ 5 ?hg (N := 10) ?hd (xs := ([(wrap64 (48 + (Int.tmod x0_1 10))) % 256] : List Int)) (inner := [.int .u8 ((wrap64 (48 + (Int.tmod x0_1 10))) % 256)]) (ok := fun _ => True) (okp := fun _ => True) ?hr ?hp (fun _ hk => hk) trivial (Below.refl _ _) (Nat.le_refl _) (by simp) ?_; (case hd => rfl); (case hg => rfl); (case hr => first | (go_simp; done) | (go_simp; rfl)); (case hp => exact (Reps.one (show Kd.M (Kd.int .u8) _ _ _ ((wrap64 (48 + (Int.tmod x0_1 10))) % 256) [.int .u8 ((wrap64 (48 + (Int.tmod x0_1 10))) % 256)] from rfl) (Reps.none _ _))); intro v105 w4 ho5 hb hg_ hnew_; clear hg_ hnew_; (first | rw [← Ny104.out] at ho5 | (simp only [Int.reduceToNat] at ho5; rw [← Ny104.out] at ho5)); have HO106 := Aside0.mk (Kd.R_lower ho5 (below_size (bl HB.out))); replace HB := sb HB hb; clear hb ho5; have hcv6 := own_string (P := Tryd.prog) Tryd.underlying83 Tryd.underlying5 Tryd.underlying9 (Kd.own_of_R HO106.out)))
     go_roundg k1
     case measure => have := HK1.out; omega
     case rel => exact ⟨(wrap64 (Int.tdiv x0_1 10)), ((strOfNums y104) ++ x3_1), (by first | rfl | (simp; done) | (simp [*]; done)), (by first | rfl | (simp; done) | (simp [*]; done)), H', ⟨by have := HK1.out; omega⟩, ⟨bl HB.out⟩⟩
    ·rw [if_neg c3] at H
     exact absurd H (by simp)
   ·rw [if_neg c2] at H
    have c2b0 : decide (10 ≤ x0_1) = false := decide_eq_false c2
    clear c2
    obtain ⟨y107, hy107⟩ : ∃ y_ : List Int, y_ = (([(wrap64 (48 + x0_1)) % 256] : List Int)) := ⟨_, rfl⟩
    replace H : (if (strOfNums y107).size + x3_1.size ≤ 9223372036854775807 then (some ((strOfNums y107) ++ x3_1)) else (none)) = some r := by first | (rw [hy107]; with_reducible exact H) | (have H2_ := (Option.bind_some _ _).symm.trans H; rw [hy107]; with_reducible exact H2_) | (have H2_ := (Option.bind_some _ _).symm.trans H; with_reducible exact H2_) | with_reducible exact H | (rw [hy107]; exact H) | exact H
    have Ny107 := Aside0.mk hy107
    clear hy107
    by_cases c7 : (strOfNums y107).size + x3_1.size ≤ 9223372036854775807
    ·rw [if_pos c7] at H
     have c7b0 := eq_true c7
     have c7b1 : decide ((strOfNums y107).size + x3_1.size ≤ 9223372036854775807) = true := decide_eq_true c7
     try have c7b2 : (9223372036854775807 < (strOfNums y107).size + x3_1.size) = False := eq_false (Nat.not_lt.2 c7)
     obtain rfl := Option.some.inj H
     go_wp2_with (first | ((with_reducible refine gate_dst (N := 19) rfl ?_); refine Kd.R_lit (Kd.int .u8) _ 5 ?hg (N := 19) ?hd (xs := ([(wrap64 (48 + x0_1)) % 256] : List Int)) (inner := [.int .u8 ((wrap64 (48 + x0_1)) % 256)]) (ok := fun _ => True) (okp := fun _ => True) ?hr ?hp (fun _ hk => hk) trivial (Below.refl _ _) (Nat.le_refl _) (by simp) ?_; (case hd => rfl); (case hg => rfl); (case hr => first | (go_simp; done) | (go_simp; rfl)); (case hp => exact (Reps.one (show Kd.M (Kd.int .u8) _ _ _ ((wrap64 (48 + x0_1)) % 256) [.int .u8 ((wrap64 (48 + x0_1)) % 256)] from rfl) (Reps.none _ _))); intro v108 w8 ho9 hb hg_ hnew_; clear hg_ hnew_; (first | rw [← Ny107.out] at ho9 | (simp only [Int.reduceToNat] at ho9; rw [← Ny107.out] at ho9)); have HO109 := Aside0.mk (Kd.R_lower ho9 (below_size (bl HB.out))); replace HB := sb HB hb; clear hb ho9; have hcv10 := own_string (P := Tryd.prog) Tryd.underlying83 Tryd.underlying5 Tryd.underlying9 (Kd.own_of_R HO109.out)))
     go_ret
     exact ⟨by first | rfl | (simp [errW_none, errW_some] <;> rfl) | (simp [*, errW_none, errW_some] <;> rfl), bl HB.out⟩
    ·rw [if_neg c7] at H
     exact absurd H (by simp)

/-! ### drachmref02_signed: function 25 -/
def drachmref02_signed.f (k : Nat) (a0 : Int) : Option (ByteArray) := if a0 < 0 then ((drachmref02_digits.f k (wrap64 (-a0))).bind fun t110 => (if 1 + t110.size ≤ 9223372036854775807 then (some ((⟨#[45]⟩ : ByteArray) ++ t110)) else (none))) else ((drachmref02_digits.f k a0).bind fun t111 => (some t111))
theorem drachmref02_signed.mono : ∀ a0 k, LeO (drachmref02_signed.f k a0) (drachmref02_signed.f (k + 1) a0) := by
 intro a0 k
 unfold drachmref02_signed.f
 repeat' first
   | (with_reducible exact drachmref02_digits.mono _ _)
   | (with_reducible exact LeO.refl _)
   | (with_reducible exact LeO.none _)
   | (with_reducible refine LeO.ite ?_ ?_)
   | (with_reducible refine LeO.bind ?_ (fun _ => ?_))
   | exact drachmref02_digits.mono _ _
   | exact LeO.none _
   | refine LeO.ite ?_ ?_
   | refine LeO.bind ?_ (fun _ => ?_)
set_option maxHeartbeats 8000000 in
set_option maxRecDepth 100000 in
theorem drachmref02_signed.calls (k : Nat) (a0 : Int) (r : ByteArray) (w : World) (h : drachmref02_signed.f k a0 = some r) :
  Calls Tryd.prog 25 #[.int .i64 a0] w fun e w' => e = .returned (.string r) ∧ Below w.heap.size w w' := by
 have HB := Aside0.mk (Below.refl w.heap.size w)
 have H : (if a0 < 0 then ((drachmref02_digits.f k (wrap64 (-a0))).bind fun t110 => (if 1 + t110.size ≤ 9223372036854775807 then (some ((⟨#[45]⟩ : ByteArray) ++ t110)) else (none))) else ((drachmref02_digits.f k a0).bind fun t111 => (some t111))) = some r := h
 clear h
 by_cases c2 : a0 < 0
 ·rw [if_pos c2] at H
  have c2b0 : decide (a0 < 0) = true := decide_eq_true c2
  clear c2
  replace H := Option.bind_eq_some_iff.mp H
  obtain ⟨t110, A30, H⟩ := H
  replace H : (if 1 + t110.size ≤ 9223372036854775807 then (some ((⟨#[45]⟩ : ByteArray) ++ t110)) else (none)) = some r := H
  have A3 := Aside0.mk A30
  clear A30
  by_cases c4 : 1 + t110.size ≤ 9223372036854775807
  ·rw [if_pos c4] at H
   have c4b0 := eq_true c4
   have c4b1 : decide (1 + t110.size ≤ 9223372036854775807) = true := decide_eq_true c4
   try have c4b2 : (9223372036854775807 < 1 + t110.size) = False := eq_false (Nat.not_lt.2 c4)
   obtain rfl := Option.some.inj H
   go_enter Tryd.func25, Tryd.ntmps25
   go_wp2_with (first | (go_at_call 26; (with_reducible refine (drachmref02_digits.calls k (wrap64 (-a0)) t110 _ A3.out).mono ?_); rintro e w5 ⟨rfl, hb⟩; replace HB := sb HB hb; (try clear hb); (try clear hb2); (try clear hk); (try clear hi)))
   go_ret
   exact ⟨by first | rfl | (simp [errW_none, errW_some] <;> rfl) | (simp [*, errW_none, errW_some] <;> rfl), bl HB.out⟩
  ·rw [if_neg c4] at H
   exact absurd H (by simp)
 ·rw [if_neg c2] at H
  have c2b0 : decide (a0 < 0) = false := decide_eq_false c2
  clear c2
  replace H := Option.bind_eq_some_iff.mp H
  obtain ⟨t111, A60, H⟩ := H
  replace H : (some t111) = some r := H
  have A6 := Aside0.mk A60
  clear A60
  obtain rfl := Option.some.inj H
  go_enter Tryd.func25, Tryd.ntmps25
  go_wp2_with (first | (go_at_call 26; (with_reducible refine (drachmref02_digits.calls k a0 t111 _ A6.out).mono ?_); rintro e w7 ⟨rfl, hb⟩; replace HB := sb HB hb; (try clear hb); (try clear hb2); (try clear hk); (try clear hi)))
  go_ret
  exact ⟨by first | rfl | (simp [errW_none, errW_some] <;> rfl) | (simp [*, errW_none, errW_some] <;> rfl), bl HB.out⟩

/-! ### drachmref02_Text: function 12 -/
def drachmref02_Text.f (k : Nat) (a0_0 : Int) (a0_1 : Int) (a0_2 : Int) : Option (ByteArray) := (drachmref02_Right.f k a0_0 a0_1 a0_2).bind fun t113 => (if t113 = true then ((drachmref02_signed.f k a0_0).bind fun t114 => (if a0_1 = 1 then (if a0_2 = 0 then (some t114) else (if t114.size + 1 ≤ 9223372036854775807 then ((drachmref02_signed.f k a0_2).bind fun t115 => (if (t114 ++ (⟨#[101]⟩ : ByteArray)).size + t115.size ≤ 9223372036854775807 then (some ((t114 ++ (⟨#[101]⟩ : ByteArray)) ++ t115)) else (none))) else (none))) else (if t114.size + 1 ≤ 9223372036854775807 then ((drachmref02_digits.f k a0_1).bind fun t116 => (if (t114 ++ (⟨#[47]⟩ : ByteArray)).size + t116.size ≤ 9223372036854775807 then (if a0_2 = 0 then (some ((t114 ++ (⟨#[47]⟩ : ByteArray)) ++ t116)) else (if ((t114 ++ (⟨#[47]⟩ : ByteArray)) ++ t116).size + 1 ≤ 9223372036854775807 then ((drachmref02_signed.f k a0_2).bind fun t117 => (if (((t114 ++ (⟨#[47]⟩ : ByteArray)) ++ t116) ++ (⟨#[101]⟩ : ByteArray)).size + t117.size ≤ 9223372036854775807 then (some ((((t114 ++ (⟨#[47]⟩ : ByteArray)) ++ t116) ++ (⟨#[101]⟩ : ByteArray)) ++ t117)) else (none))) else (none))) else (none))) else (none)))) else (some (⟨#[]⟩ : ByteArray)))
theorem drachmref02_Text.mono : ∀ a0 a1 a2 k, LeO (drachmref02_Text.f k a0 a1 a2) (drachmref02_Text.f (k + 1) a0 a1 a2) := by
 intro a0 a1 a2 k
 unfold drachmref02_Text.f
 repeat' first
   | (with_reducible exact drachmref02_Right.mono _ _ _ _)
   | (with_reducible exact drachmref02_digits.mono _ _)
   | (with_reducible exact drachmref02_signed.mono _ _)
   | (with_reducible exact LeO.refl _)
   | (with_reducible exact LeO.none _)
   | (with_reducible refine LeO.ite ?_ ?_)
   | (with_reducible refine LeO.bind ?_ (fun _ => ?_))
   | exact drachmref02_Right.mono _ _ _ _
   | exact drachmref02_digits.mono _ _
   | exact drachmref02_signed.mono _ _
   | exact LeO.none _
   | refine LeO.ite ?_ ?_
   | refine LeO.bind ?_ (fun _ => ?_)
set_option maxHeartbeats 8000000 in
set_option maxRecDepth 100000 in
theorem drachmref02_Text.calls (k : Nat) (a0_0 : Int) (a0_1 : Int) (a0_2 : Int) (r : ByteArray) (w : World) (h : drachmref02_Text.f k a0_0 a0_1 a0_2 = some r) :
  Calls Tryd.prog 12 #[.agg #[.int .i64 a0_0, .int .i64 a0_1, .int .i64 a0_2]] w fun e w' => e = .returned (.string r) ∧ Below w.heap.size w w' := by
 have hu29 := Tryd.underlying29
 have HB := Aside0.mk (Below.refl w.heap.size w)
 have H : ((drachmref02_Right.f k a0_0 a0_1 a0_2).bind fun t113 => (if t113 = true then ((drachmref02_signed.f k a0_0).bind fun t114 => (if a0_1 = 1 then (if a0_2 = 0 then (some t114) else (if t114.size + 1 ≤ 9223372036854775807 then ((drachmref02_signed.f k a0_2).bind fun t115 => (if (t114 ++ (⟨#[101]⟩ : ByteArray)).size + t115.size ≤ 9223372036854775807 then (some ((t114 ++ (⟨#[101]⟩ : ByteArray)) ++ t115)) else (none))) else (none))) else (if t114.size + 1 ≤ 9223372036854775807 then ((drachmref02_digits.f k a0_1).bind fun t116 => (if (t114 ++ (⟨#[47]⟩ : ByteArray)).size + t116.size ≤ 9223372036854775807 then (if a0_2 = 0 then (some ((t114 ++ (⟨#[47]⟩ : ByteArray)) ++ t116)) else (if ((t114 ++ (⟨#[47]⟩ : ByteArray)) ++ t116).size + 1 ≤ 9223372036854775807 then ((drachmref02_signed.f k a0_2).bind fun t117 => (if (((t114 ++ (⟨#[47]⟩ : ByteArray)) ++ t116) ++ (⟨#[101]⟩ : ByteArray)).size + t117.size ≤ 9223372036854775807 then (some ((((t114 ++ (⟨#[47]⟩ : ByteArray)) ++ t116) ++ (⟨#[101]⟩ : ByteArray)) ++ t117)) else (none))) else (none))) else (none))) else (none)))) else (some (⟨#[]⟩ : ByteArray)))) = some r := h
 clear h
 replace H := Option.bind_eq_some_iff.mp H
 obtain ⟨t113, A20, H⟩ := H
 replace H : (if t113 = true then ((drachmref02_signed.f k a0_0).bind fun t114 => (if a0_1 = 1 then (if a0_2 = 0 then (some t114) else (if t114.size + 1 ≤ 9223372036854775807 then ((drachmref02_signed.f k a0_2).bind fun t115 => (if (t114 ++ (⟨#[101]⟩ : ByteArray)).size + t115.size ≤ 9223372036854775807 then (some ((t114 ++ (⟨#[101]⟩ : ByteArray)) ++ t115)) else (none))) else (none))) else (if t114.size + 1 ≤ 9223372036854775807 then ((drachmref02_digits.f k a0_1).bind fun t116 => (if (t114 ++ (⟨#[47]⟩ : ByteArray)).size + t116.size ≤ 9223372036854775807 then (if a0_2 = 0 then (some ((t114 ++ (⟨#[47]⟩ : ByteArray)) ++ t116)) else (if ((t114 ++ (⟨#[47]⟩ : ByteArray)) ++ t116).size + 1 ≤ 9223372036854775807 then ((drachmref02_signed.f k a0_2).bind fun t117 => (if (((t114 ++ (⟨#[47]⟩ : ByteArray)) ++ t116) ++ (⟨#[101]⟩ : ByteArray)).size + t117.size ≤ 9223372036854775807 then (some ((((t114 ++ (⟨#[47]⟩ : ByteArray)) ++ t116) ++ (⟨#[101]⟩ : ByteArray)) ++ t117)) else (none))) else (none))) else (none))) else (none)))) else (some (⟨#[]⟩ : ByteArray))) = some r := H
 have A2 := Aside0.mk A20
 clear A20
 by_cases c3 : t113 = true
 ·subst c3
  have H1 : ((drachmref02_signed.f k a0_0).bind fun t114 => (if a0_1 = 1 then (if a0_2 = 0 then (some t114) else (if t114.size + 1 ≤ 9223372036854775807 then ((drachmref02_signed.f k a0_2).bind fun t115 => (if (t114 ++ (⟨#[101]⟩ : ByteArray)).size + t115.size ≤ 9223372036854775807 then (some ((t114 ++ (⟨#[101]⟩ : ByteArray)) ++ t115)) else (none))) else (none))) else (if t114.size + 1 ≤ 9223372036854775807 then ((drachmref02_digits.f k a0_1).bind fun t116 => (if (t114 ++ (⟨#[47]⟩ : ByteArray)).size + t116.size ≤ 9223372036854775807 then (if a0_2 = 0 then (some ((t114 ++ (⟨#[47]⟩ : ByteArray)) ++ t116)) else (if ((t114 ++ (⟨#[47]⟩ : ByteArray)) ++ t116).size + 1 ≤ 9223372036854775807 then ((drachmref02_signed.f k a0_2).bind fun t117 => (if (((t114 ++ (⟨#[47]⟩ : ByteArray)) ++ t116) ++ (⟨#[101]⟩ : ByteArray)).size + t117.size ≤ 9223372036854775807 then (some ((((t114 ++ (⟨#[47]⟩ : ByteArray)) ++ t116) ++ (⟨#[101]⟩ : ByteArray)) ++ t117)) else (none))) else (none))) else (none))) else (none)))) = some r := by rw [if_pos rfl] at H; exact H
  clear H
  have H := H1
  clear H1
  replace H := Option.bind_eq_some_iff.mp H
  obtain ⟨t114, A40, H⟩ := H
  replace H : (if a0_1 = 1 then (if a0_2 = 0 then (some t114) else (if t114.size + 1 ≤ 9223372036854775807 then ((drachmref02_signed.f k a0_2).bind fun t115 => (if (t114 ++ (⟨#[101]⟩ : ByteArray)).size + t115.size ≤ 9223372036854775807 then (some ((t114 ++ (⟨#[101]⟩ : ByteArray)) ++ t115)) else (none))) else (none))) else (if t114.size + 1 ≤ 9223372036854775807 then ((drachmref02_digits.f k a0_1).bind fun t116 => (if (t114 ++ (⟨#[47]⟩ : ByteArray)).size + t116.size ≤ 9223372036854775807 then (if a0_2 = 0 then (some ((t114 ++ (⟨#[47]⟩ : ByteArray)) ++ t116)) else (if ((t114 ++ (⟨#[47]⟩ : ByteArray)) ++ t116).size + 1 ≤ 9223372036854775807 then ((drachmref02_signed.f k a0_2).bind fun t117 => (if (((t114 ++ (⟨#[47]⟩ : ByteArray)) ++ t116) ++ (⟨#[101]⟩ : ByteArray)).size + t117.size ≤ 9223372036854775807 then (some ((((t114 ++ (⟨#[47]⟩ : ByteArray)) ++ t116) ++ (⟨#[101]⟩ : ByteArray)) ++ t117)) else (none))) else (none))) else (none))) else (none))) = some r := H
  have A4 := Aside0.mk A40
  clear A40
  by_cases c5 : a0_1 = 1
  ·rw [if_pos c5] at H
   have c5b0 : (a0_1 == 1) = true := beq_iff_eq.mpr c5
   have c5b1 : (a0_1 != 1) = false := bne_eq_false_iff_eq.mpr c5
   clear c5
   by_cases c6 : a0_2 = 0
   ·rw [if_pos c6] at H
    have c6b0 : (a0_2 == 0) = true := beq_iff_eq.mpr c6
    have c6b1 : (a0_2 != 0) = false := bne_eq_false_iff_eq.mpr c6
    clear c6
    obtain rfl := Option.some.inj H
    go_enter Tryd.func12, Tryd.ntmps12
    go_wp2_with (first | ((with_reducible refine gate_dst (N := 1) rfl ?_); refine box_event ?hg (N := 1) ?hd (cs := #[.int .i64 a0_0, .int .i64 a0_1, .int .i64 a0_2]) (t := 29) ?hr ?_; (case hd => rfl); (case hg => rfl); (case hr => first | (go_simp; done) | (go_simp; rfl)); intro gb112 hg w7 hbox hb; have n0_ := sb HB hb; have n1_ := Aside0.mk (hbox); have n2_ := Aside0.mk ((by rw [hg]; exact (below_size (bl HB.out)) : w.heap.size ≤ gb112)); have n3_ := Aside0.mk ((by rw [hg]; exact (below_size (bl HB.out)) : w.heap.size ≤ gb112)); clear HB; have HB := n0_; have BK112 := n1_; have GW112 := n2_; have GE112 := n3_; clear n0_ n1_ n2_ n3_; clear hb hbox hg; obtain ⟨hcz8_0, hcz8_1, hcz8_2⟩ := hc3 BK112.out; obtain ⟨hfz8_0, hfz8_1, hfz8_2⟩ := hf3 BK112.out) | (go_at_call 24; (with_reducible refine (drachmref02_Right.calls k a0_0 a0_1 a0_2 true _ A2.out).mono ?_); rintro e w9 ⟨rfl, hb⟩; replace BK112 := kb BK112 hb; replace HB := sb HB hb; (try clear hb); (try clear hb2); (try clear hk); (try clear hi); obtain ⟨hcz10_0, hcz10_1, hcz10_2⟩ := hc3 BK112.out; obtain ⟨hfz10_0, hfz10_1, hfz10_2⟩ := hf3 BK112.out) | (go_at_call 25; (with_reducible refine (drachmref02_signed.calls k a0_0 t114 _ A4.out).mono ?_); rintro e w11 ⟨rfl, hb⟩; replace BK112 := kb BK112 hb; replace HB := sb HB hb; (try clear hb); (try clear hb2); (try clear hk); (try clear hi); obtain ⟨hcz12_0, hcz12_1, hcz12_2⟩ := hc3 BK112.out; obtain ⟨hfz12_0, hfz12_1, hfz12_2⟩ := hf3 BK112.out))
    go_ret
    exact ⟨by first | rfl | (simp [errW_none, errW_some] <;> rfl) | (simp [*, errW_none, errW_some] <;> rfl), bl HB.out⟩
   ·rw [if_neg c6] at H
    have c6b0 : (a0_2 == 0) = false := beq_eq_false_iff_ne.mpr c6
    have c6b1 : (a0_2 != 0) = true := bne_iff_ne.mpr c6
    by_cases c13 : t114.size + 1 ≤ 9223372036854775807
    ·rw [if_pos c13] at H
     have c13b0 := eq_true c13
     have c13b1 : decide (t114.size + 1 ≤ 9223372036854775807) = true := decide_eq_true c13
     try have c13b2 : (9223372036854775807 < t114.size + 1) = False := eq_false (Nat.not_lt.2 c13)
     replace H := Option.bind_eq_some_iff.mp H
     obtain ⟨t115, A140, H⟩ := H
     replace H : (if (t114 ++ (⟨#[101]⟩ : ByteArray)).size + t115.size ≤ 9223372036854775807 then (some ((t114 ++ (⟨#[101]⟩ : ByteArray)) ++ t115)) else (none)) = some r := H
     have A14 := Aside0.mk A140
     clear A140
     by_cases c15 : (t114 ++ (⟨#[101]⟩ : ByteArray)).size + t115.size ≤ 9223372036854775807
     ·rw [if_pos c15] at H
      have c15b0 := eq_true c15
      have c15b1 : decide ((t114 ++ (⟨#[101]⟩ : ByteArray)).size + t115.size ≤ 9223372036854775807) = true := decide_eq_true c15
      try have c15b2 : (9223372036854775807 < (t114 ++ (⟨#[101]⟩ : ByteArray)).size + t115.size) = False := eq_false (Nat.not_lt.2 c15)
      (try have c15b3 : (9223372036854775807 < t114.size + 1 + t115.size) = False := eq_false (by have h_ := c15; simp only [ByteArray.size_append] at h_; have e0_ : (⟨#[101]⟩ : ByteArray).size = 1 := rfl; omega))
      obtain rfl := Option.some.inj H
      go_enter Tryd.func12, Tryd.ntmps12
      go_wp2_with (first | ((with_reducible refine gate_dst (N := 1) rfl ?_); refine box_event ?hg (N := 1) ?hd (cs := #[.int .i64 a0_0, .int .i64 a0_1, .int .i64 a0_2]) (t := 29) ?hr ?_; (case hd => rfl); (case hg => rfl); (case hr => first | (go_simp; done) | (go_simp; rfl)); intro gb112 hg w16 hbox hb; have n0_ := sb HB hb; have n1_ := Aside0.mk (hbox); have n2_ := Aside0.mk ((by rw [hg]; exact (below_size (bl HB.out)) : w.heap.size ≤ gb112)); have n3_ := Aside0.mk ((by rw [hg]; exact (below_size (bl HB.out)) : w.heap.size ≤ gb112)); clear HB; have HB := n0_; have BK112 := n1_; have GW112 := n2_; have GE112 := n3_; clear n0_ n1_ n2_ n3_; clear hb hbox hg; obtain ⟨hcz17_0, hcz17_1, hcz17_2⟩ := hc3 BK112.out; obtain ⟨hfz17_0, hfz17_1, hfz17_2⟩ := hf3 BK112.out) | (go_at_call 24; (with_reducible refine (drachmref02_Right.calls k a0_0 a0_1 a0_2 true _ A2.out).mono ?_); rintro e w18 ⟨rfl, hb⟩; replace BK112 := kb BK112 hb; replace HB := sb HB hb; (try clear hb); (try clear hb2); (try clear hk); (try clear hi); obtain ⟨hcz19_0, hcz19_1, hcz19_2⟩ := hc3 BK112.out; obtain ⟨hfz19_0, hfz19_1, hfz19_2⟩ := hf3 BK112.out) | (go_at_call 25; (with_reducible refine (drachmref02_signed.calls k a0_0 t114 _ A4.out).mono ?_); rintro e w20 ⟨rfl, hb⟩; replace BK112 := kb BK112 hb; replace HB := sb HB hb; (try clear hb); (try clear hb2); (try clear hk); (try clear hi); obtain ⟨hcz21_0, hcz21_1, hcz21_2⟩ := hc3 BK112.out; obtain ⟨hfz21_0, hfz21_1, hfz21_2⟩ := hf3 BK112.out) | (go_at_call 25; (with_reducible refine (drachmref02_signed.calls k a0_2 t115 _ A14.out).mono ?_); rintro e w22 ⟨rfl, hb⟩; replace BK112 := kb BK112 hb; replace HB := sb HB hb; (try clear hb); (try clear hb2); (try clear hk); (try clear hi)))
      go_ret
      exact ⟨by first | rfl | (simp [errW_none, errW_some] <;> rfl) | (simp [*, errW_none, errW_some] <;> rfl), bl HB.out⟩
     ·rw [if_neg c15] at H
      exact absurd H (by simp)
    ·rw [if_neg c13] at H
     exact absurd H (by simp)
  ·rw [if_neg c5] at H
   have c5b0 : (a0_1 == 1) = false := beq_eq_false_iff_ne.mpr c5
   have c5b1 : (a0_1 != 1) = true := bne_iff_ne.mpr c5
   by_cases c23 : t114.size + 1 ≤ 9223372036854775807
   ·rw [if_pos c23] at H
    have c23b0 := eq_true c23
    have c23b1 : decide (t114.size + 1 ≤ 9223372036854775807) = true := decide_eq_true c23
    try have c23b2 : (9223372036854775807 < t114.size + 1) = False := eq_false (Nat.not_lt.2 c23)
    replace H := Option.bind_eq_some_iff.mp H
    obtain ⟨t116, A240, H⟩ := H
    replace H : (if (t114 ++ (⟨#[47]⟩ : ByteArray)).size + t116.size ≤ 9223372036854775807 then (if a0_2 = 0 then (some ((t114 ++ (⟨#[47]⟩ : ByteArray)) ++ t116)) else (if ((t114 ++ (⟨#[47]⟩ : ByteArray)) ++ t116).size + 1 ≤ 9223372036854775807 then ((drachmref02_signed.f k a0_2).bind fun t117 => (if (((t114 ++ (⟨#[47]⟩ : ByteArray)) ++ t116) ++ (⟨#[101]⟩ : ByteArray)).size + t117.size ≤ 9223372036854775807 then (some ((((t114 ++ (⟨#[47]⟩ : ByteArray)) ++ t116) ++ (⟨#[101]⟩ : ByteArray)) ++ t117)) else (none))) else (none))) else (none)) = some r := H
    have A24 := Aside0.mk A240
    clear A240
    by_cases c25 : (t114 ++ (⟨#[47]⟩ : ByteArray)).size + t116.size ≤ 9223372036854775807
    ·rw [if_pos c25] at H
     have c25b0 := eq_true c25
     have c25b1 : decide ((t114 ++ (⟨#[47]⟩ : ByteArray)).size + t116.size ≤ 9223372036854775807) = true := decide_eq_true c25
     try have c25b2 : (9223372036854775807 < (t114 ++ (⟨#[47]⟩ : ByteArray)).size + t116.size) = False := eq_false (Nat.not_lt.2 c25)
     (try have c25b3 : (9223372036854775807 < t114.size + 1 + t116.size) = False := eq_false (by have h_ := c25; simp only [ByteArray.size_append] at h_; have e0_ : (⟨#[47]⟩ : ByteArray).size = 1 := rfl; omega))
     by_cases c26 : a0_2 = 0
     ·rw [if_pos c26] at H
      have c26b0 : (a0_2 == 0) = true := beq_iff_eq.mpr c26
      have c26b1 : (a0_2 != 0) = false := bne_eq_false_iff_eq.mpr c26
      clear c26
      obtain rfl := Option.some.inj H
      go_enter Tryd.func12, Tryd.ntmps12
      go_wp2_with (first | ((with_reducible refine gate_dst (N := 1) rfl ?_); refine box_event ?hg (N := 1) ?hd (cs := #[.int .i64 a0_0, .int .i64 a0_1, .int .i64 a0_2]) (t := 29) ?hr ?_; (case hd => rfl); (case hg => rfl); (case hr => first | (go_simp; done) | (go_simp; rfl)); intro gb112 hg w27 hbox hb; have n0_ := sb HB hb; have n1_ := Aside0.mk (hbox); have n2_ := Aside0.mk ((by rw [hg]; exact (below_size (bl HB.out)) : w.heap.size ≤ gb112)); have n3_ := Aside0.mk ((by rw [hg]; exact (below_size (bl HB.out)) : w.heap.size ≤ gb112)); clear HB; have HB := n0_; have BK112 := n1_; have GW112 := n2_; have GE112 := n3_; clear n0_ n1_ n2_ n3_; clear hb hbox hg; obtain ⟨hcz28_0, hcz28_1, hcz28_2⟩ := hc3 BK112.out; obtain ⟨hfz28_0, hfz28_1, hfz28_2⟩ := hf3 BK112.out) | (go_at_call 24; (with_reducible refine (drachmref02_Right.calls k a0_0 a0_1 a0_2 true _ A2.out).mono ?_); rintro e w29 ⟨rfl, hb⟩; replace BK112 := kb BK112 hb; replace HB := sb HB hb; (try clear hb); (try clear hb2); (try clear hk); (try clear hi); obtain ⟨hcz30_0, hcz30_1, hcz30_2⟩ := hc3 BK112.out; obtain ⟨hfz30_0, hfz30_1, hfz30_2⟩ := hf3 BK112.out) | (go_at_call 25; (with_reducible refine (drachmref02_signed.calls k a0_0 t114 _ A4.out).mono ?_); rintro e w31 ⟨rfl, hb⟩; replace BK112 := kb BK112 hb; replace HB := sb HB hb; (try clear hb); (try clear hb2); (try clear hk); (try clear hi); obtain ⟨hcz32_0, hcz32_1, hcz32_2⟩ := hc3 BK112.out; obtain ⟨hfz32_0, hfz32_1, hfz32_2⟩ := hf3 BK112.out) | (go_at_call 26; (with_reducible refine (drachmref02_digits.calls k a0_1 t116 _ A24.out).mono ?_); rintro e w33 ⟨rfl, hb⟩; replace BK112 := kb BK112 hb; replace HB := sb HB hb; (try clear hb); (try clear hb2); (try clear hk); (try clear hi); obtain ⟨hcz34_0, hcz34_1, hcz34_2⟩ := hc3 BK112.out; obtain ⟨hfz34_0, hfz34_1, hfz34_2⟩ := hf3 BK112.out))
      go_ret
      exact ⟨by first | rfl | (simp [errW_none, errW_some] <;> rfl) | (simp [*, errW_none, errW_some] <;> rfl), bl HB.out⟩
     ·rw [if_neg c26] at H
      have c26b0 : (a0_2 == 0) = false := beq_eq_false_iff_ne.mpr c26
      have c26b1 : (a0_2 != 0) = true := bne_iff_ne.mpr c26
      by_cases c35 : ((t114 ++ (⟨#[47]⟩ : ByteArray)) ++ t116).size + 1 ≤ 9223372036854775807
      ·rw [if_pos c35] at H
       have c35b0 := eq_true c35
       have c35b1 : decide (((t114 ++ (⟨#[47]⟩ : ByteArray)) ++ t116).size + 1 ≤ 9223372036854775807) = true := decide_eq_true c35
       try have c35b2 : (9223372036854775807 < ((t114 ++ (⟨#[47]⟩ : ByteArray)) ++ t116).size + 1) = False := eq_false (Nat.not_lt.2 c35)
       (try have c35b3 : (9223372036854775807 < t114.size + 1 + t116.size + 1) = False := eq_false (by have h_ := c35; simp only [ByteArray.size_append] at h_; have e0_ : (⟨#[47]⟩ : ByteArray).size = 1 := rfl; omega))
       replace H := Option.bind_eq_some_iff.mp H
       obtain ⟨t117, A360, H⟩ := H
       replace H : (if (((t114 ++ (⟨#[47]⟩ : ByteArray)) ++ t116) ++ (⟨#[101]⟩ : ByteArray)).size + t117.size ≤ 9223372036854775807 then (some ((((t114 ++ (⟨#[47]⟩ : ByteArray)) ++ t116) ++ (⟨#[101]⟩ : ByteArray)) ++ t117)) else (none)) = some r := H
       have A36 := Aside0.mk A360
       clear A360
       by_cases c37 : (((t114 ++ (⟨#[47]⟩ : ByteArray)) ++ t116) ++ (⟨#[101]⟩ : ByteArray)).size + t117.size ≤ 9223372036854775807
       ·rw [if_pos c37] at H
        have c37b0 := eq_true c37
        have c37b1 : decide ((((t114 ++ (⟨#[47]⟩ : ByteArray)) ++ t116) ++ (⟨#[101]⟩ : ByteArray)).size + t117.size ≤ 9223372036854775807) = true := decide_eq_true c37
        try have c37b2 : (9223372036854775807 < (((t114 ++ (⟨#[47]⟩ : ByteArray)) ++ t116) ++ (⟨#[101]⟩ : ByteArray)).size + t117.size) = False := eq_false (Nat.not_lt.2 c37)
        (try have c37b3 : (9223372036854775807 < t114.size + 1 + t116.size + 1 + t117.size) = False := eq_false (by have h_ := c37; simp only [ByteArray.size_append] at h_; have e0_ : (⟨#[101]⟩ : ByteArray).size = 1 := rfl; have e1_ : (⟨#[47]⟩ : ByteArray).size = 1 := rfl; omega))
        obtain rfl := Option.some.inj H
        go_enter Tryd.func12, Tryd.ntmps12
        go_wp2_with (first | ((with_reducible refine gate_dst (N := 1) rfl ?_); refine box_event ?hg (N := 1) ?hd (cs := #[.int .i64 a0_0, .int .i64 a0_1, .int .i64 a0_2]) (t := 29) ?hr ?_; (case hd => rfl); (case hg => rfl); (case hr => first | (go_simp; done) | (go_simp; rfl)); intro gb112 hg w38 hbox hb; have n0_ := sb HB hb; have n1_ := Aside0.mk (hbox); have n2_ := Aside0.mk ((by rw [hg]; exact (below_size (bl HB.out)) : w.heap.size ≤ gb112)); have n3_ := Aside0.mk ((by rw [hg]; exact (below_size (bl HB.out)) : w.heap.size ≤ gb112)); clear HB; have HB := n0_; have BK112 := n1_; have GW112 := n2_; have GE112 := n3_; clear n0_ n1_ n2_ n3_; clear hb hbox hg; obtain ⟨hcz39_0, hcz39_1, hcz39_2⟩ := hc3 BK112.out; obtain ⟨hfz39_0, hfz39_1, hfz39_2⟩ := hf3 BK112.out) | (go_at_call 24; (with_reducible refine (drachmref02_Right.calls k a0_0 a0_1 a0_2 true _ A2.out).mono ?_); rintro e w40 ⟨rfl, hb⟩; replace BK112 := kb BK112 hb; replace HB := sb HB hb; (try clear hb); (try clear hb2); (try clear hk); (try clear hi); obtain ⟨hcz41_0, hcz41_1, hcz41_2⟩ := hc3 BK112.out; obtain ⟨hfz41_0, hfz41_1, hfz41_2⟩ := hf3 BK112.out) | (go_at_call 25; (with_reducible refine (drachmref02_signed.calls k a0_0 t114 _ A4.out).mono ?_); rintro e w42 ⟨rfl, hb⟩; replace BK112 := kb BK112 hb; replace HB := sb HB hb; (try clear hb); (try clear hb2); (try clear hk); (try clear hi); obtain ⟨hcz43_0, hcz43_1, hcz43_2⟩ := hc3 BK112.out; obtain ⟨hfz43_0, hfz43_1, hfz43_2⟩ := hf3 BK112.out) | (go_at_call 26; (with_reducible refine (drachmref02_digits.calls k a0_1 t116 _ A24.out).mono ?_); rintro e w44 ⟨rfl, hb⟩; replace BK112 := kb BK112 hb; replace HB := sb HB hb; (try clear hb); (try clear hb2); (try clear hk); (try clear hi); obtain ⟨hcz45_0, hcz45_1, hcz45_2⟩ := hc3 BK112.out; obtain ⟨hfz45_0, hfz45_1, hfz45_2⟩ := hf3 BK112.out) | (go_at_call 25; (with_reducible refine (drachmref02_signed.calls k a0_2 t117 _ A36.out).mono ?_); rintro e w46 ⟨rfl, hb⟩; replace BK112 := kb BK112 hb; replace HB := sb HB hb; (try clear hb); (try clear hb2); (try clear hk); (try clear hi)))
        go_ret
        exact ⟨by first | rfl | (simp [errW_none, errW_some] <;> rfl) | (simp [*, errW_none, errW_some] <;> rfl), bl HB.out⟩
       ·rw [if_neg c37] at H
        exact absurd H (by simp)
      ·rw [if_neg c35] at H
       exact absurd H (by simp)
    ·rw [if_neg c25] at H
     exact absurd H (by simp)
   ·rw [if_neg c23] at H
    exact absurd H (by simp)
 ·replace c3 := Bool.eq_false_iff.mpr c3
  subst c3
  have H1 : (some (⟨#[]⟩ : ByteArray)) = some r := by rw [if_neg (show ¬ (false = true) by decide)] at H; exact H
  clear H
  have H := H1
  clear H1
  obtain rfl := Option.some.inj H
  go_enter Tryd.func12, Tryd.ntmps12
  go_wp2_with (first | ((with_reducible refine gate_dst (N := 1) rfl ?_); refine box_event ?hg (N := 1) ?hd (cs := #[.int .i64 a0_0, .int .i64 a0_1, .int .i64 a0_2]) (t := 29) ?hr ?_; (case hd => rfl); (case hg => rfl); (case hr => first | (go_simp; done) | (go_simp; rfl)); intro gb112 hg w47 hbox hb; have n0_ := sb HB hb; have n1_ := Aside0.mk (hbox); have n2_ := Aside0.mk ((by rw [hg]; exact (below_size (bl HB.out)) : w.heap.size ≤ gb112)); have n3_ := Aside0.mk ((by rw [hg]; exact (below_size (bl HB.out)) : w.heap.size ≤ gb112)); clear HB; have HB := n0_; have BK112 := n1_; have GW112 := n2_; have GE112 := n3_; clear n0_ n1_ n2_ n3_; clear hb hbox hg; obtain ⟨hcz48_0, hcz48_1, hcz48_2⟩ := hc3 BK112.out; obtain ⟨hfz48_0, hfz48_1, hfz48_2⟩ := hf3 BK112.out) | (go_at_call 24; (with_reducible refine (drachmref02_Right.calls k a0_0 a0_1 a0_2 false _ A2.out).mono ?_); rintro e w49 ⟨rfl, hb⟩; replace BK112 := kb BK112 hb; replace HB := sb HB hb; (try clear hb); (try clear hb2); (try clear hk); (try clear hi)))
  go_ret
  exact ⟨by first | rfl | (simp [errW_none, errW_some] <;> rfl) | (simp [*, errW_none, errW_some] <;> rfl), bl HB.out⟩

end Go.Proofs.YthfibffgmoblaaaDoor.PE

