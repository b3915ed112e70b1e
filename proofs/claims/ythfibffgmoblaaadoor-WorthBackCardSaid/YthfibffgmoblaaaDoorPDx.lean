/- Printed by a program of this session (wip/tools/prt.py) out of the translation: plain functions, and that the calls come to just them. No conditions beyond those that stand in each theorem. -/
import Derived.Test.YthfibffgmoblaaaDoorWw
import Derived.Test.YthfibffgmoblaaaDoorSq
import Derived.Test.YthfibffgmoblaaaDoorProg
import Derived.Below
import Derived.Deep.Draws
import Derived.Deep.AppendLies
import Derived.Maps.AppendAt
import Derived.OwnWalk
import Derived.Laws.BytesArg
import Derived.Laws.MakeOwn
import Derived.Laws.OwnMore
import Derived.Deep.OwnRows
import Derived.Tactics
import Derived.Lib.ConvBytes
import Derived.Laws.Slices
import Derived.WalkKit
import Derived.KernelRfl
import Derived.RowKit3
import Derived.Deep.LoopGhost
import Derived.Deep.QuietTactic
import Derived.BigQuiet
import Derived.WideLaws
import Derived.Deep.DeepCutAuto
import Derived.Deep.CutBlock
import Derived.Deep.RegionHeld3
import Derived.Laws.Rows
import Derived.Lib.AppendStr
import Derived.ArgAppend
import Derived.Laws.IdiomCopy
import Derived.OrdersHeld
import Derived.Laws.BitsLemmas
import Derived.RowKit
import Derived.Test.YthfibffgmoblaaaDoorGlob
import Derived.Test.YthfibffgmoblaaaDoorH2
import Derived.Test.YthfibffgmoblaaaDoorPBx
import Derived.Test.YthfibffgmoblaaaDoorPCx
namespace Go.Proofs.YthfibffgmoblaaaDoor.PD
open Go.Proofs.YthfibffgmoblaaaDoor.Sq Go.RowKit Go.Proofs.YthfibffgmoblaaaDoorW.PrintWords Go.Proofs.YthfibffgmoblaaaDoorW.PrintLast Go.Proofs.YthfibffgmoblaaaDoorW.PrintMore Go.Proofs.YthfibffgmoblaaaDoor.PB Go.Proofs.YthfibffgmoblaaaDoor.PC
attribute [local go_sem] max2_int min2_int max_two min_two max_three min_three max_four min_four   -- for this text's walks alone
set_option linter.unusedVariables false
set_option linter.unusedSimpArgs false

theorem arr_cell {w : World} {g : Nat} {e : Int → Value} (o z : Nat) (l : List Int) (j : Int) (h : ∀ i, i < l.length → w.cell? ⟨g, o + i * z, none⟩ = some (e (l.getD i 0))) (h0 : 0 ≤ j) (hj : j < (l.length : Int)) : w.cell? ⟨g, o + j.toNat * z, none⟩ = some (e (rd l j)) := h j.toNat (by omega)
theorem arr_cell1 {w : World} {g : Nat} {e : Int → Value} (l : List Int) (j : Int) (h : ∀ i, i < l.length → w.cell? ⟨g, i, none⟩ = some (e (l.getD i 0))) (h0 : 0 ≤ j) (hj : j < (l.length : Int)) : w.cell? ⟨g, j.toNat, none⟩ = some (e (rd l j)) := h j.toNat (by omega)
theorem arr_cell2 {w : World} {g : Nat} {e : Int → Value} (z : Nat) (l : List Int) (j : Int) (h : ∀ i, i < l.length → w.cell? ⟨g, i * z, none⟩ = some (e (l.getD i 0))) (h0 : 0 ≤ j) (hj : j < (l.length : Int)) : w.cell? ⟨g, j.toNat * z, none⟩ = some (e (rd l j)) := h j.toNat (by omega)


def errW : Option Int → Value
 | none => .nilIface
 | some c => .iface 0 (.int .i64 c)
theorem errW_none : errW none = .nilIface := rfl
theorem errW_some (c : Int) : errW (some c) = .iface 0 (.int .i64 c) := rfl

-- the values' own types

end Go.Proofs.YthfibffgmoblaaaDoor.PD

namespace Go.Proofs.YthfibffgmoblaaaDoor.PD
open Go.Proofs.YthfibffgmoblaaaDoor.Sq Go.RowKit Go.Proofs.YthfibffgmoblaaaDoorW.PrintWords Go.Proofs.YthfibffgmoblaaaDoorW.PrintLast Go.Proofs.YthfibffgmoblaaaDoorW.PrintMore Go.Proofs.YthfibffgmoblaaaDoor.PB Go.Proofs.YthfibffgmoblaaaDoor.PC
attribute [local go_sem] max2_int min2_int max_two min_two max_three min_three max_four min_four   -- for this text's walks alone
set_option linter.unusedVariables false
set_option linter.unusedSimpArgs false

/-! ### frac_Make: function 36 -/
mutual
def frac_Make.j0 : Nat → Int → Int → Int → Bool → Option (Int × Int × Int × Int)
 | 0, _, _, _, _ => none
 | k + 1, x0, x1, x2, x8 => if x8 = true then (some (0, 0, 0, 1)) else (if x1 = 0 then (some (0, 0, 0, 11)) else (if x0 = 0 then (some (0, 1, 0, 0)) else (if x2 < (-2000) then (frac_Make.j1 k x0 x1 x2 true) else (frac_Make.j1 k x0 x1 x2 (decide (x2 > 2000))))))
def frac_Make.j1 : Nat → Int → Int → Int → Bool → Option (Int × Int × Int × Int)
 | 0, _, _, _, _ => none
 | k + 1, x0, x1, x2, x26 => if x26 = true then (some (0, 0, 0, 10)) else ((frac_loosen.f k x0 x1).bind fun bt104 => ((frac_loose_form.f k bt104.1 bt104.2.1 bt104.2.2.1 bt104.2.2.2 x2).bind fun bt108 => (some (bt108.1, bt108.2.1, bt108.2.2.1, bt108.2.2.2))))
end
def frac_Make.f (k : Nat) (a0 : Int) (a1 : Int) (a2 : Int) : Option (Int × Int × Int × Int) := (whole_Fits.f a0).bind fun t102 => (if t102 = true then ((whole_Fits.f a1).bind fun t103 => (frac_Make.j0 k a0 a1 a2 (!t103))) else (frac_Make.j0 k a0 a1 a2 true))
theorem frac_Make.mono_l : ∀ k, (∀ y0 y1 y2 y3, LeO (frac_Make.j0 k y0 y1 y2 y3) (frac_Make.j0 (k + 1) y0 y1 y2 y3)) ∧ (∀ y0 y1 y2 y3, LeO (frac_Make.j1 k y0 y1 y2 y3) (frac_Make.j1 (k + 1) y0 y1 y2 y3))
 | 0 => ⟨fun _ _ _ _ r h => by simp [frac_Make.j0] at h, fun _ _ _ _ r h => by simp [frac_Make.j1] at h⟩
 | k + 1 => by
  obtain ⟨ih0, ih1⟩ := frac_Make.mono_l k
  refine ⟨?_, ?_⟩
  ·intro y0 y1 y2 y3
   unfold frac_Make.j0
   repeat' first
   | (with_reducible exact ih0 _ _ _ _)
   | (with_reducible exact ih1 _ _ _ _)
   | (with_reducible exact frac_loose_form.mono _ _ _ _ _ _)
   | (with_reducible exact frac_loosen.mono _ _ _)
   | (with_reducible exact LeO.refl _)
   | (with_reducible exact LeO.none _)
   | (with_reducible refine LeO.ite ?_ ?_)
   | (with_reducible refine LeO.bind ?_ (fun _ => ?_))
   | exact ih0 _ _ _ _
   | exact ih1 _ _ _ _
   | exact frac_loose_form.mono _ _ _ _ _ _
   | exact frac_loosen.mono _ _ _
   | exact LeO.none _
   | refine LeO.ite ?_ ?_
   | refine LeO.bind ?_ (fun _ => ?_)
  ·intro y0 y1 y2 y3
   unfold frac_Make.j1
   repeat' first
   | (with_reducible exact ih0 _ _ _ _)
   | (with_reducible exact ih1 _ _ _ _)
   | (with_reducible exact frac_loose_form.mono _ _ _ _ _ _)
   | (with_reducible exact frac_loosen.mono _ _ _)
   | (with_reducible exact LeO.refl _)
   | (with_reducible exact LeO.none _)
   | (with_reducible refine LeO.ite ?_ ?_)
   | (with_reducible refine LeO.bind ?_ (fun _ => ?_))
   | exact ih0 _ _ _ _
   | exact ih1 _ _ _ _
   | exact frac_loose_form.mono _ _ _ _ _ _
   | exact frac_loosen.mono _ _ _
   | exact LeO.none _
   | refine LeO.ite ?_ ?_
   | refine LeO.bind ?_ (fun _ => ?_)
theorem frac_Make.mono : ∀ a0 a1 a2 k, LeO (frac_Make.f k a0 a1 a2) (frac_Make.f (k + 1) a0 a1 a2) := by
 intro a0 a1 a2 k
 obtain ⟨ih0, ih1⟩ := frac_Make.mono_l k
 unfold frac_Make.f
 repeat' first
   | (with_reducible exact ih0 _ _ _ _)
   | (with_reducible exact ih1 _ _ _ _)
   | (with_reducible exact frac_loose_form.mono _ _ _ _ _ _)
   | (with_reducible exact frac_loosen.mono _ _ _)
   | (with_reducible exact LeO.refl _)
   | (with_reducible exact LeO.none _)
   | (with_reducible refine LeO.ite ?_ ?_)
   | (with_reducible refine LeO.bind ?_ (fun _ => ?_))
   | exact ih0 _ _ _ _
   | exact ih1 _ _ _ _
   | exact frac_loose_form.mono _ _ _ _ _ _
   | exact frac_loosen.mono _ _ _
   | exact LeO.none _
   | refine LeO.ite ?_ ?_
   | refine LeO.bind ?_ (fun _ => ?_)
set_option maxHeartbeats 8000000 in
set_option maxRecDepth 100000 in
theorem frac_Make.calls (k : Nat) (a0 : Int) (a1 : Int) (a2 : Int) (r1 : Int) (r2 : Int) (r3 : Int) (r4 : Int) (w : World) (hG : Glob [1] w) (h : frac_Make.f k a0 a1 a2 = some (r1, r2, r3, r4)) :
  Calls Tryd.prog 36 #[.int .i64 a0, .int .i64 a1, .int .i64 a2] w fun e w' => e = .returned (.tuple #[.agg #[.int .i64 r1, .int .i64 r2, .int .i64 r3], .int .i64 r4]) ∧ Below w.heap.size w w' := by
 have hu29 := Tryd.underlying29
 have HB := Aside0.mk (Below.refl w.heap.size w)
 have H : ((whole_Fits.f a0).bind fun t102 => (if t102 = true then ((whole_Fits.f a1).bind fun t103 => (frac_Make.j0 k a0 a1 a2 (!t103))) else (frac_Make.j0 k a0 a1 a2 true))) = some (r1, r2, r3, r4) := h
 clear h
 have HC4 := Aside0.mk H
 clear H
 go_enter Tryd.func36, Tryd.ntmps36
 go_upto_region 1 with (first | ((with_reducible refine gate_dst (N := 6) rfl ?_); refine box_event ?hg (N := 6) ?hd (cs := #[.int .i64 0, .int .i64 0, .int .i64 0]) (t := 29) ?hr ?_; (case hd => rfl); (case hg => rfl); (case hr => first | (go_simp; done) | (go_simp; rfl)); intro gb101 hg w5 hbox hb; have n0_ := sb HB hb; have n1_ := Aside0.mk (hbox); have n2_ := Aside0.mk ((by rw [hg]; exact (below_size (bl HB.out)) : w.heap.size ≤ gb101)); have n3_ := Aside0.mk ((by rw [hg]; exact (below_size (bl HB.out)) : w.heap.size ≤ gb101)); clear HB; have HB := n0_; have BK101 := n1_; have GW101 := n2_; have GE101 := n3_; clear n0_ n1_ n2_ n3_; clear hb hbox hg))
 (try simp only [Act.put, List.setIfInBounds_toArray, List.set_cons_zero, List.set_cons_succ])
 go_cut [8] (fun v8 wc => ∃ (kq : Nat) (x8_3 : Bool), v8 = .bool x8_3 ∧ Aside0 (frac_Make.j0 kq a0 a1 a2 x8_3 = some (r1, r2, r3, r4)) ∧ Aside0 (kq ≤ k) ∧ Aside0 (wc.heap[gb101]? = some (.cells #[.int .i64 0, .int .i64 0, .int .i64 0] 29 (0, 0))) ∧ Aside0 (Below w.heap.size w wc))
 case first =>
  have H := HC4.out
  clear HC4
  replace H := Option.bind_eq_some_iff.mp H
  obtain ⟨t102, A60, H⟩ := H
  replace H : (if t102 = true then ((whole_Fits.f a1).bind fun t103 => (frac_Make.j0 k a0 a1 a2 (!t103))) else (frac_Make.j0 k a0 a1 a2 true)) = some (r1, r2, r3, r4) := H
  have A6 := Aside0.mk A60
  clear A60
  by_cases c7 : t102 = true
  ·subst c7
   have H1 : ((whole_Fits.f a1).bind fun t103 => (frac_Make.j0 k a0 a1 a2 (!t103))) = some (r1, r2, r3, r4) := by rw [if_pos rfl] at H; exact H
   clear H
   have H := H1
   clear H1
   replace H := Option.bind_eq_some_iff.mp H
   obtain ⟨t103, A80, H⟩ := H
   replace H : (frac_Make.j0 k a0 a1 a2 (!t103)) = some (r1, r2, r3, r4) := H
   have A8 := Aside0.mk A80
   clear A80
   have H' := Aside0.mk H
   clear H
   go_wp2_with (first | (go_at_call 65; (with_reducible refine (whole_Fits.calls a0 true _ A6.out).mono ?_); rintro e w' ⟨rfl, ⟨nd, rfl⟩⟩) | (go_at_call 65; (with_reducible refine (whole_Fits.calls a1 t103 _ A8.out).mono ?_); rintro e w' ⟨rfl, ⟨nd, rfl⟩⟩))
   go_meet
   case rel => exact ⟨_, (!t103), (by first | rfl | (simp; done) | (simp [*]; done)), H', ⟨by first | omega | exact Nat.le_refl _⟩, ⟨kp BK101.out⟩, ⟨bl HB.out⟩⟩
  ·replace c7 := Bool.eq_false_iff.mpr c7
   subst c7
   have H1 : (frac_Make.j0 k a0 a1 a2 true) = some (r1, r2, r3, r4) := by rw [if_neg (show ¬ (false = true) by decide)] at H; exact H
   clear H
   have H := H1
   clear H1
   have H' := Aside0.mk H
   clear H
   go_wp2_with (first | (go_at_call 65; (with_reducible refine (whole_Fits.calls a0 false _ A6.out).mono ?_); rintro e w' ⟨rfl, ⟨nd, rfl⟩⟩))
   go_meet
   case rel => exact ⟨_, (true), (by first | rfl | (simp; done) | (simp [*]; done)), H', ⟨by first | omega | exact Nat.le_refl _⟩, ⟨kp BK101.out⟩, ⟨bl HB.out⟩⟩
 case rest =>
  clear HC4
  try clear p2
  try clear c3
  try clear c6
  try clear c7
  obtain ⟨kq, x8_3, rfl, HA, HJ3, BK101, HB⟩ := hcut
  cases kq with
  | zero => exact absurd HA.out (by simp [frac_Make.j0])
  | succ kj3 =>
   have H := HA.out
   clear HA
   simp only [frac_Make.j0] at H
   by_cases c9 : x8_3 = true
   ·subst c9
    have H1 : (some (0, 0, 0, 1)) = some (r1, r2, r3, r4) := by rw [if_pos rfl] at H; exact H
    clear H
    have H := H1
    clear H1
    simp only [Option.some.injEq, Prod.mk.injEq] at H
    obtain ⟨rfl, rfl, rfl, rfl⟩ := H
    obtain ⟨hcz10_0, hcz10_1, hcz10_2⟩ := hc3 BK101.out
    obtain ⟨hfz10_0, hfz10_1, hfz10_2⟩ := hf3 BK101.out
    go_wp2
    refine bodyPost_ret (results_ct rfl _ _ gb101 29 #[.int .i64 0, .int .i64 0, .int .i64 0] (0, 0) _ rfl (kp (p3_2 (kp (p3_1 (kp (p3_0 (kp BK101.out))))))) Tryd.underlying29 rfl (by kernel_rfl)) rfl ?_
    exact ⟨by first | rfl | (simp [errW_none, errW_some] <;> rfl) | (simp [*, errW_none, errW_some] <;> rfl), bl HB.out⟩
   ·replace c9 := Bool.eq_false_iff.mpr c9
    subst c9
    have H1 : (if a1 = 0 then (some (0, 0, 0, 11)) else (if a0 = 0 then (some (0, 1, 0, 0)) else (if a2 < (-2000) then (frac_Make.j1 kj3 a0 a1 a2 true) else (frac_Make.j1 kj3 a0 a1 a2 (decide (a2 > 2000)))))) = some (r1, r2, r3, r4) := by rw [if_neg (show ¬ (false = true) by decide)] at H; exact H
    clear H
    have H := H1
    clear H1
    by_cases c11 : a1 = 0
    ·rw [if_pos c11] at H
     have c11b0 : (a1 == 0) = true := beq_iff_eq.mpr c11
     have c11b1 : (a1 != 0) = false := bne_eq_false_iff_eq.mpr c11
     clear c11
     simp only [Option.some.injEq, Prod.mk.injEq] at H
     obtain ⟨rfl, rfl, rfl, rfl⟩ := H
     obtain ⟨hcz12_0, hcz12_1, hcz12_2⟩ := hc3 BK101.out
     obtain ⟨hfz12_0, hfz12_1, hfz12_2⟩ := hf3 BK101.out
     go_wp2
     refine bodyPost_ret (results_ct rfl _ _ gb101 29 #[.int .i64 0, .int .i64 0, .int .i64 0] (0, 0) _ rfl (kp (p3_2 (kp (p3_1 (kp (p3_0 (kp BK101.out))))))) Tryd.underlying29 rfl (by kernel_rfl)) rfl ?_
     exact ⟨by first | rfl | (simp [errW_none, errW_some] <;> rfl) | (simp [*, errW_none, errW_some] <;> rfl), bl HB.out⟩
    ·rw [if_neg c11] at H
     have c11b0 : (a1 == 0) = false := beq_eq_false_iff_ne.mpr c11
     have c11b1 : (a1 != 0) = true := bne_iff_ne.mpr c11
     by_cases c13 : a0 = 0
     ·rw [if_pos c13] at H
      have c13b0 : (a0 == 0) = true := beq_iff_eq.mpr c13
      have c13b1 : (a0 != 0) = false := bne_eq_false_iff_eq.mpr c13
      clear c13
      simp only [Option.some.injEq, Prod.mk.injEq] at H
      obtain ⟨rfl, rfl, rfl, rfl⟩ := H
      obtain ⟨hcz14_0, hcz14_1, hcz14_2⟩ := hc3 BK101.out
      obtain ⟨hfz14_0, hfz14_1, hfz14_2⟩ := hf3 BK101.out
      go_wp2
      refine bodyPost_ret (results_ct rfl _ _ gb101 29 #[.int .i64 0, .int .i64 1, .int .i64 0] (0, 0) _ rfl (kp (p3_2 (kp (p3_1 (kp (p3_0 (kp BK101.out))))))) Tryd.underlying29 rfl (by kernel_rfl)) rfl ?_
      exact ⟨by first | rfl | (simp [errW_none, errW_some] <;> rfl) | (simp [*, errW_none, errW_some] <;> rfl), bl HB.out⟩
     ·rw [if_neg c13] at H
      have c13b0 : (a0 == 0) = false := beq_eq_false_iff_ne.mpr c13
      have c13b1 : (a0 != 0) = true := bne_iff_ne.mpr c13
      have HC15 := Aside0.mk H
      clear H
      go_upto_region 7 with (fail)
      go_cut [26] (fun v26 wc => ∃ (kq : Nat) (x26_14 : Bool), v26 = .bool x26_14 ∧ Aside0 (frac_Make.j1 kq a0 a1 a2 x26_14 = some (r1, r2, r3, r4)) ∧ Aside0 (kq ≤ kj3) ∧ Aside0 (wc.heap[gb101]? = some (.cells #[.int .i64 0, .int .i64 0, .int .i64 0] 29 (0, 0))) ∧ Aside0 (Below w.heap.size w wc))
      case first =>
       have H := HC15.out
       clear HC15
       by_cases c16 : a2 < (-2000)
       ·rw [if_pos c16] at H
        have c16b0 : decide (a2 < (-2000)) = true := decide_eq_true c16
        clear c16
        (first | rw [c16b0] | (simp only [i64_w, i32_w]; rw [c16b0]) | skip)
        have H' := Aside0.mk H
        clear H
        go_wp2
        go_meet
        case rel => exact ⟨_, (true), (by first | rfl | (simp; done) | (simp [*]; done)), H', ⟨by have := HJ3.out; first | omega | exact Nat.le_refl _⟩, ⟨kp BK101.out⟩, ⟨bl HB.out⟩⟩
       ·rw [if_neg c16] at H
        have c16b0 : decide (a2 < (-2000)) = false := decide_eq_false c16
        clear c16
        (first | rw [c16b0] | (simp only [i64_w, i32_w]; rw [c16b0]) | skip)
        have H' := Aside0.mk H
        clear H
        go_wp2
        go_meet
        case rel => exact ⟨_, (decide (a2 > 2000)), (by first | rfl | (simp; done) | (simp [*]; done)), H', ⟨by have := HJ3.out; first | omega | exact Nat.le_refl _⟩, ⟨kp BK101.out⟩, ⟨bl HB.out⟩⟩
      case rest =>
       clear HC15
       try clear c1
       try clear p2
       try clear c3
       try clear c6
       try clear c7
       try clear c9
       try clear c11
       try clear c11b0
       try clear c11b1
       try clear c13
       try clear c13b0
       try clear c13b1
       try clear c16
       try clear c16b0
       try clear hcz10_0 hcz10_1 hcz10_2
       try clear hcz12_0 hcz12_1 hcz12_2
       try clear hcz14_0 hcz14_1 hcz14_2
       try clear hfz10_0 hfz10_1 hfz10_2
       try clear hfz12_0 hfz12_1 hfz12_2
       try clear hfz14_0 hfz14_1 hfz14_2
       try clear p2
       obtain ⟨kq, x26_14, rfl, HA, HJ14, BK101, HB⟩ := hcut
       cases kq with
       | zero => exact absurd HA.out (by simp [frac_Make.j1])
       | succ kj14 =>
        have H := HA.out
        clear HA
        simp only [frac_Make.j1] at H
        by_cases c17 : x26_14 = true
        ·subst c17
         have H1 : (some (0, 0, 0, 10)) = some (r1, r2, r3, r4) := by rw [if_pos rfl] at H; exact H
         clear H
         have H := H1
         clear H1
         simp only [Option.some.injEq, Prod.mk.injEq] at H
         obtain ⟨rfl, rfl, rfl, rfl⟩ := H
         obtain ⟨hcz18_0, hcz18_1, hcz18_2⟩ := hc3 BK101.out
         obtain ⟨hfz18_0, hfz18_1, hfz18_2⟩ := hf3 BK101.out
         go_wp2
         refine bodyPost_ret (results_ct rfl _ _ gb101 29 #[.int .i64 0, .int .i64 0, .int .i64 0] (0, 0) _ rfl (kp (p3_2 (kp (p3_1 (kp (p3_0 (kp BK101.out))))))) Tryd.underlying29 rfl (by kernel_rfl)) rfl ?_
         exact ⟨by first | rfl | (simp [errW_none, errW_some] <;> rfl) | (simp [*, errW_none, errW_some] <;> rfl), bl HB.out⟩
        ·replace c17 := Bool.eq_false_iff.mpr c17
         subst c17
         have H1 : ((frac_loosen.f kj14 a0 a1).bind fun bt104 => ((frac_loose_form.f kj14 bt104.1 bt104.2.1 bt104.2.2.1 bt104.2.2.2 a2).bind fun bt108 => (some (bt108.1, bt108.2.1, bt108.2.2.1, bt108.2.2.2)))) = some (r1, r2, r3, r4) := by rw [if_neg (show ¬ (false = true) by decide)] at H; exact H
         clear H
         have H := H1
         clear H1
         replace H := Option.bind_eq_some_iff.mp H
         obtain ⟨⟨t104, t105, t106, t107⟩, A190, H⟩ := H
         replace H : ((frac_loose_form.f kj14 t104 t105 t106 t107 a2).bind fun bt108 => (some (bt108.1, bt108.2.1, bt108.2.2.1, bt108.2.2.2))) = some (r1, r2, r3, r4) := H
         have A19 := Aside0.mk A190
         clear A190
         replace H := Option.bind_eq_some_iff.mp H
         obtain ⟨⟨t108, t109, t110, t111⟩, A200, H⟩ := H
         replace H : (some (t108, t109, t110, t111)) = some (r1, r2, r3, r4) := H
         have A20 := Aside0.mk A200
         clear A200
         simp only [Option.some.injEq, Prod.mk.injEq] at H
         obtain ⟨rfl, rfl, rfl, rfl⟩ := H
         go_wp2_with (first | (go_at_call 60; (with_reducible refine (frac_loosen.calls kj14 a0 a1 t104 t105 t106 t107 _ (Glob.use hG (by decide) (bl HB.out)) A19.out).mono ?_); rintro e w21 ⟨rfl, hb⟩; replace BK101 := kb BK101 hb; replace HB := sb HB hb; (try clear hb); (try clear hb2); (try clear hk); (try clear hi)) | (go_at_call 66; (with_reducible refine (frac_loose_form.calls kj14 t104 t105 t106 t107 a2 t108 t109 t110 t111 _ (Glob.use hG (by decide) (bl HB.out)) A20.out).mono ?_); rintro e w22 ⟨rfl, hb⟩; replace BK101 := kb BK101 hb; replace HB := sb HB hb; (try clear hb); (try clear hb2); (try clear hk); (try clear hi); obtain ⟨hcz23_0, hcz23_1, hcz23_2⟩ := hc3 BK101.out; obtain ⟨hfz23_0, hfz23_1, hfz23_2⟩ := hf3 BK101.out))
         refine bodyPost_ret (results_ct rfl _ _ gb101 29 #[.int .i64 t108, .int .i64 t109, .int .i64 t110] (0, 0) _ rfl (kp (p3_2 (kp (p3_1 (kp (p3_0 (kp BK101.out))))))) Tryd.underlying29 rfl (by kernel_rfl)) rfl ?_
         exact ⟨by first | rfl | (simp [errW_none, errW_some] <;> rfl) | (simp [*, errW_none, errW_some] <;> rfl), bl HB.out⟩

/-! ### frac_product: function 59 -/
def frac_product.f (k : Nat) (a0_0 : Int) (a0_1 : Int) (a0_2 : Int) (a0_3 : Int) (a1_0 : Int) (a1_1 : Int) (a1_2 : Int) (a1_3 : Int) (a2 : Int) : Option (Int × Int × Int × Int) := (frac_loose_times.f k a0_0 a0_1 a0_2 a0_3 a1_0 a1_1 a1_2 a1_3).bind fun bt115 => (if bt115.2.2.2.2 = true then ((frac_loose_form.f k bt115.1 bt115.2.1 bt115.2.2.1 bt115.2.2.2.1 a2).bind fun bt121 => (some (bt121.1, bt121.2.1, bt121.2.2.1, bt121.2.2.2))) else (some (0, 0, 0, 10)))
theorem frac_product.mono : ∀ a0 a1 a2 a3 a4 a5 a6 a7 a8 k, LeO (frac_product.f k a0 a1 a2 a3 a4 a5 a6 a7 a8) (frac_product.f (k + 1) a0 a1 a2 a3 a4 a5 a6 a7 a8) := by
 intro a0 a1 a2 a3 a4 a5 a6 a7 a8 k
 unfold frac_product.f
 repeat' first
   | (with_reducible exact frac_loose_form.mono _ _ _ _ _ _)
   | (with_reducible exact frac_loose_times.mono _ _ _ _ _ _ _ _ _)
   | (with_reducible exact LeO.refl _)
   | (with_reducible exact LeO.none _)
   | (with_reducible refine LeO.ite ?_ ?_)
   | (with_reducible refine LeO.bind ?_ (fun _ => ?_))
   | exact frac_loose_form.mono _ _ _ _ _ _
   | exact frac_loose_times.mono _ _ _ _ _ _ _ _ _
   | exact LeO.none _
   | refine LeO.ite ?_ ?_
   | refine LeO.bind ?_ (fun _ => ?_)
set_option maxHeartbeats 8000000 in
set_option maxRecDepth 100000 in
theorem frac_product.calls (k : Nat) (a0_0 : Int) (a0_1 : Int) (a0_2 : Int) (a0_3 : Int) (a1_0 : Int) (a1_1 : Int) (a1_2 : Int) (a1_3 : Int) (a2 : Int) (r1 : Int) (r2 : Int) (r3 : Int) (r4 : Int) (w : World) (hG : Glob [1] w) (h : frac_product.f k a0_0 a0_1 a0_2 a0_3 a1_0 a1_1 a1_2 a1_3 a2 = some (r1, r2, r3, r4)) :
  Calls Tryd.prog 59 #[.agg #[.int .i64 a0_0, .int .i64 a0_1, .int .i64 a0_2, .int .i64 a0_3], .agg #[.int .i64 a1_0, .int .i64 a1_1, .int .i64 a1_2, .int .i64 a1_3], .int .i64 a2] w fun e w' => e = .returned (.tuple #[.agg #[.int .i64 r1, .int .i64 r2, .int .i64 r3], .int .i64 r4]) ∧ Below w.heap.size w w' := by
 have hu100 := Tryd.underlying100
 have hu29 := Tryd.underlying29
 have HB := Aside0.mk (Below.refl w.heap.size w)
 have H : ((frac_loose_times.f k a0_0 a0_1 a0_2 a0_3 a1_0 a1_1 a1_2 a1_3).bind fun bt115 => (if bt115.2.2.2.2 = true then ((frac_loose_form.f k bt115.1 bt115.2.1 bt115.2.2.1 bt115.2.2.2.1 a2).bind fun bt121 => (some (bt121.1, bt121.2.1, bt121.2.2.1, bt121.2.2.2))) else (some (0, 0, 0, 10)))) = some (r1, r2, r3, r4) := h
 clear h
 replace H := Option.bind_eq_some_iff.mp H
 obtain ⟨⟨t115, t116, t117, t118, t119⟩, A40, H⟩ := H
 replace H : (if t119 = true then ((frac_loose_form.f k t115 t116 t117 t118 a2).bind fun bt121 => (some (bt121.1, bt121.2.1, bt121.2.2.1, bt121.2.2.2))) else (some (0, 0, 0, 10))) = some (r1, r2, r3, r4) := H
 have A4 := Aside0.mk A40
 clear A40
 by_cases c5 : t119 = true
 ·subst c5
  have H1 : ((frac_loose_form.f k t115 t116 t117 t118 a2).bind fun bt121 => (some (bt121.1, bt121.2.1, bt121.2.2.1, bt121.2.2.2))) = some (r1, r2, r3, r4) := by rw [if_pos rfl] at H; exact H
  clear H
  have H := H1
  clear H1
  replace H := Option.bind_eq_some_iff.mp H
  obtain ⟨⟨t121, t122, t123, t124⟩, A60, H⟩ := H
  replace H : (some (t121, t122, t123, t124)) = some (r1, r2, r3, r4) := H
  have A6 := Aside0.mk A60
  clear A60
  simp only [Option.some.injEq, Prod.mk.injEq] at H
  obtain ⟨rfl, rfl, rfl, rfl⟩ := H
  go_enter Tryd.func59, Tryd.ntmps59
  go_wp2_with (first | ((with_reducible refine gate_dst (N := 3) rfl ?_); refine box_event ?hg (N := 3) ?hd (cs := #[.int .i64 a0_0, .int .i64 a0_1, .int .i64 a0_2, .int .i64 a0_3]) (t := 100) ?hr ?_; (case hd => rfl); (case hg => rfl); (case hr => first | (go_simp; done) | (go_simp; rfl)); intro gb112 hg w7 hbox hb; have n0_ := sb HB hb; have n1_ := Aside0.mk (hbox); have n2_ := Aside0.mk ((by rw [hg]; exact (below_size (bl HB.out)) : w.heap.size ≤ gb112)); have n3_ := Aside0.mk ((by rw [hg]; exact (below_size (bl HB.out)) : w.heap.size ≤ gb112)); clear HB; have HB := n0_; have BK112 := n1_; have GW112 := n2_; have GE112 := n3_; clear n0_ n1_ n2_ n3_; clear hb hbox hg) | ((with_reducible refine gate_dst (N := 4) rfl ?_); refine box_event ?hg (N := 4) ?hd (cs := #[.int .i64 a1_0, .int .i64 a1_1, .int .i64 a1_2, .int .i64 a1_3]) (t := 100) ?hr ?_; (case hd => rfl); (case hg => rfl); (case hr => first | (go_simp; done) | (go_simp; rfl)); intro gb113 hg w8 hbox hb; have n0_ := kb BK112 hb; have n1_ := sb HB hb; have n2_ := Aside0.mk (hbox); have n3_ := Aside0.mk ((by rw [hg]; exact (below_size (bl HB.out)) : w.heap.size ≤ gb113)); have n4_ := Aside0.mk ((by rw [hg]; exact (below_size (bl HB.out)) : w.heap.size ≤ gb113)); have n5_ := Aside0.mk ((by rw [hg]; exact Nat.ne_of_lt (blk_lt (kp BK112.out)) : gb112 ≠ gb113)); have n6_ := Aside0.mk ((by rw [hg]; exact Nat.ne_of_gt (blk_lt (kp BK112.out)) : gb113 ≠ gb112)); clear BK112; clear HB; have BK112 := n0_; have HB := n1_; have BK113 := n2_; have GW113 := n3_; have GE113 := n4_; have NB112_113 := n5_; have NB113_112 := n6_; clear n0_ n1_ n2_ n3_ n4_ n5_ n6_; clear hb hbox hg) | ((with_reducible refine gate_dst (N := 6) rfl ?_); refine box_event ?hg (N := 6) ?hd (cs := #[.int .i64 0, .int .i64 0, .int .i64 0]) (t := 29) ?hr ?_; (case hd => rfl); (case hg => rfl); (case hr => first | (go_simp; done) | (go_simp; rfl)); intro gb114 hg w9 hbox hb; have n0_ := kb BK112 hb; have n1_ := kb BK113 hb; have n2_ := sb HB hb; have n3_ := Aside0.mk (hbox); have n4_ := Aside0.mk ((by rw [hg]; exact (below_size (bl HB.out)) : w.heap.size ≤ gb114)); have n5_ := Aside0.mk ((by rw [hg]; exact (below_size (bl HB.out)) : w.heap.size ≤ gb114)); have n6_ := Aside0.mk ((by rw [hg]; exact Nat.ne_of_lt (blk_lt (kp BK112.out)) : gb112 ≠ gb114)); have n7_ := Aside0.mk ((by rw [hg]; exact Nat.ne_of_gt (blk_lt (kp BK112.out)) : gb114 ≠ gb112)); have n8_ := Aside0.mk ((by rw [hg]; exact Nat.ne_of_lt (blk_lt (kp BK113.out)) : gb113 ≠ gb114)); have n9_ := Aside0.mk ((by rw [hg]; exact Nat.ne_of_gt (blk_lt (kp BK113.out)) : gb114 ≠ gb113)); clear BK112; clear BK113; clear HB; have BK112 := n0_; have BK113 := n1_; have HB := n2_; have BK114 := n3_; have GW114 := n4_; have GE114 := n5_; have NB112_114 := n6_; have NB114_112 := n7_; have NB113_114 := n8_; have NB114_113 := n9_; clear n0_ n1_ n2_ n3_ n4_ n5_ n6_ n7_ n8_ n9_; clear hb hbox hg; have hnb10 := NB112_113.out; have hnc10 := NB113_112.out; have hnb11 := NB112_114.out; have hnc11 := NB114_112.out; obtain ⟨hcz12_0, hcz12_1, hcz12_2, hcz12_3⟩ := hc4 BK112.out; obtain ⟨hfz12_0, hfz12_1, hfz12_2, hfz12_3⟩ := hf4 BK112.out; have hnb13 := NB113_114.out; have hnc13 := NB114_113.out; obtain ⟨hcz14_0, hcz14_1, hcz14_2, hcz14_3⟩ := hc4 BK113.out; obtain ⟨hfz14_0, hfz14_1, hfz14_2, hfz14_3⟩ := hf4 BK113.out) | (go_at_call 67; (with_reducible refine (frac_loose_times.calls k a0_0 a0_1 a0_2 a0_3 a1_0 a1_1 a1_2 a1_3 t115 t116 t117 t118 true _ A4.out).mono ?_); rintro e w15 ⟨rfl, hb⟩; replace BK112 := kb BK112 hb; replace BK113 := kb BK113 hb; replace BK114 := kb BK114 hb; replace HB := sb HB hb; (try clear hb); (try clear hb2); (try clear hk); (try clear hi)) | ((with_reducible refine gate_dst (N := 8) rfl ?_); refine box_event ?hg (N := 8) ?hd (cs := #[.int .i64 0, .int .i64 0, .int .i64 0, .int .i64 0]) (t := 100) ?hr ?_; (case hd => rfl); (case hg => rfl); (case hr => first | (go_simp; done) | (go_simp; rfl)); intro gb120 hg w16 hbox hb; have n0_ := kb BK112 hb; have n1_ := kb BK113 hb; have n2_ := kb BK114 hb; have n3_ := sb HB hb; have n4_ := Aside0.mk (hbox); have n5_ := Aside0.mk ((by rw [hg]; exact (below_size (bl HB.out)) : w.heap.size ≤ gb120)); have n6_ := Aside0.mk ((by rw [hg]; exact (below_size (bl HB.out)) : w.heap.size ≤ gb120)); have n7_ := Aside0.mk ((by rw [hg]; exact Nat.ne_of_lt (blk_lt (kp BK112.out)) : gb112 ≠ gb120)); have n8_ := Aside0.mk ((by rw [hg]; exact Nat.ne_of_gt (blk_lt (kp BK112.out)) : gb120 ≠ gb112)); have n9_ := Aside0.mk ((by rw [hg]; exact Nat.ne_of_lt (blk_lt (kp BK113.out)) : gb113 ≠ gb120)); have n10_ := Aside0.mk ((by rw [hg]; exact Nat.ne_of_gt (blk_lt (kp BK113.out)) : gb120 ≠ gb113)); have n11_ := Aside0.mk ((by rw [hg]; exact Nat.ne_of_lt (blk_lt (kp BK114.out)) : gb114 ≠ gb120)); have n12_ := Aside0.mk ((by rw [hg]; exact Nat.ne_of_gt (blk_lt (kp BK114.out)) : gb120 ≠ gb114)); clear BK112; clear BK113; clear BK114; clear HB; have BK112 := n0_; have BK113 := n1_; have BK114 := n2_; have HB := n3_; have BK120 := n4_; have GW120 := n5_; have GE120 := n6_; have NB112_120 := n7_; have NB120_112 := n8_; have NB113_120 := n9_; have NB120_113 := n10_; have NB114_120 := n11_; have NB120_114 := n12_; clear n0_ n1_ n2_ n3_ n4_ n5_ n6_ n7_ n8_ n9_ n10_ n11_ n12_; clear hb hbox hg; have hnb17 := NB120_112.out; have hnc17 := NB112_120.out; have hnb18 := NB120_113.out; have hnc18 := NB113_120.out; have hnb19 := NB120_114.out; have hnc19 := NB114_120.out; obtain ⟨hcz20_0, hcz20_1, hcz20_2, hcz20_3⟩ := hc4 BK120.out; obtain ⟨hfz20_0, hfz20_1, hfz20_2, hfz20_3⟩ := hf4 BK120.out) | (go_at_call 66; (with_reducible refine (frac_loose_form.calls k t115 t116 t117 t118 a2 t121 t122 t123 t124 _ (Glob.use hG (by decide) (bl HB.out)) A6.out).mono ?_); rintro e w21 ⟨rfl, hb⟩; replace BK112 := kb BK112 hb; replace BK113 := kb BK113 hb; replace BK114 := kb BK114 hb; replace BK120 := Aside0.mk (blk_below (kp (p4_3 (kp (p4_2 (kp (p4_1 (kp (p4_0 (kp BK120.out))))))))) hb); replace HB := sb HB hb; (try clear hb); (try clear hb2); (try clear hk); (try clear hi); obtain ⟨hcz22_0, hcz22_1, hcz22_2⟩ := hc3 BK114.out; obtain ⟨hfz22_0, hfz22_1, hfz22_2⟩ := hf3 BK114.out))
  refine bodyPost_ret (results_ct rfl _ _ gb114 29 #[.int .i64 t121, .int .i64 t122, .int .i64 t123] (0, 0) _ rfl (kp (p3_2 (kp (p3_1 (kp (p3_0 (kp BK114.out))))))) Tryd.underlying29 rfl (by kernel_rfl)) rfl ?_
  exact ⟨by first | rfl | (simp [errW_none, errW_some] <;> rfl) | (simp [*, errW_none, errW_some] <;> rfl), bl HB.out⟩
 ·replace c5 := Bool.eq_false_iff.mpr c5
  subst c5
  have H1 : (some (0, 0, 0, 10)) = some (r1, r2, r3, r4) := by rw [if_neg (show ¬ (false = true) by decide)] at H; exact H
  clear H
  have H := H1
  clear H1
  simp only [Option.some.injEq, Prod.mk.injEq] at H
  obtain ⟨rfl, rfl, rfl, rfl⟩ := H
  go_enter Tryd.func59, Tryd.ntmps59
  go_wp2_with (first | ((with_reducible refine gate_dst (N := 3) rfl ?_); refine box_event ?hg (N := 3) ?hd (cs := #[.int .i64 a0_0, .int .i64 a0_1, .int .i64 a0_2, .int .i64 a0_3]) (t := 100) ?hr ?_; (case hd => rfl); (case hg => rfl); (case hr => first | (go_simp; done) | (go_simp; rfl)); intro gb112 hg w23 hbox hb; have n0_ := sb HB hb; have n1_ := Aside0.mk (hbox); have n2_ := Aside0.mk ((by rw [hg]; exact (below_size (bl HB.out)) : w.heap.size ≤ gb112)); have n3_ := Aside0.mk ((by rw [hg]; exact (below_size (bl HB.out)) : w.heap.size ≤ gb112)); clear HB; have HB := n0_; have BK112 := n1_; have GW112 := n2_; have GE112 := n3_; clear n0_ n1_ n2_ n3_; clear hb hbox hg) | ((with_reducible refine gate_dst (N := 4) rfl ?_); refine box_event ?hg (N := 4) ?hd (cs := #[.int .i64 a1_0, .int .i64 a1_1, .int .i64 a1_2, .int .i64 a1_3]) (t := 100) ?hr ?_; (case hd => rfl); (case hg => rfl); (case hr => first | (go_simp; done) | (go_simp; rfl)); intro gb113 hg w24 hbox hb; have n0_ := kb BK112 hb; have n1_ := sb HB hb; have n2_ := Aside0.mk (hbox); have n3_ := Aside0.mk ((by rw [hg]; exact (below_size (bl HB.out)) : w.heap.size ≤ gb113)); have n4_ := Aside0.mk ((by rw [hg]; exact (below_size (bl HB.out)) : w.heap.size ≤ gb113)); have n5_ := Aside0.mk ((by rw [hg]; exact Nat.ne_of_lt (blk_lt (kp BK112.out)) : gb112 ≠ gb113)); have n6_ := Aside0.mk ((by rw [hg]; exact Nat.ne_of_gt (blk_lt (kp BK112.out)) : gb113 ≠ gb112)); clear BK112; clear HB; have BK112 := n0_; have HB := n1_; have BK113 := n2_; have GW113 := n3_; have GE113 := n4_; have NB112_113 := n5_; have NB113_112 := n6_; clear n0_ n1_ n2_ n3_ n4_ n5_ n6_; clear hb hbox hg) | ((with_reducible refine gate_dst (N := 6) rfl ?_); refine box_event ?hg (N := 6) ?hd (cs := #[.int .i64 0, .int .i64 0, .int .i64 0]) (t := 29) ?hr ?_; (case hd => rfl); (case hg => rfl); (case hr => first | (go_simp; done) | (go_simp; rfl)); intro gb114 hg w25 hbox hb; have n0_ := kb BK112 hb; have n1_ := kb BK113 hb; have n2_ := sb HB hb; have n3_ := Aside0.mk (hbox); have n4_ := Aside0.mk ((by rw [hg]; exact (below_size (bl HB.out)) : w.heap.size ≤ gb114)); have n5_ := Aside0.mk ((by rw [hg]; exact (below_size (bl HB.out)) : w.heap.size ≤ gb114)); have n6_ := Aside0.mk ((by rw [hg]; exact Nat.ne_of_lt (blk_lt (kp BK112.out)) : gb112 ≠ gb114)); have n7_ := Aside0.mk ((by rw [hg]; exact Nat.ne_of_gt (blk_lt (kp BK112.out)) : gb114 ≠ gb112)); have n8_ := Aside0.mk ((by rw [hg]; exact Nat.ne_of_lt (blk_lt (kp BK113.out)) : gb113 ≠ gb114)); have n9_ := Aside0.mk ((by rw [hg]; exact Nat.ne_of_gt (blk_lt (kp BK113.out)) : gb114 ≠ gb113)); clear BK112; clear BK113; clear HB; have BK112 := n0_; have BK113 := n1_; have HB := n2_; have BK114 := n3_; have GW114 := n4_; have GE114 := n5_; have NB112_114 := n6_; have NB114_112 := n7_; have NB113_114 := n8_; have NB114_113 := n9_; clear n0_ n1_ n2_ n3_ n4_ n5_ n6_ n7_ n8_ n9_; clear hb hbox hg; have hnb26 := NB112_113.out; have hnc26 := NB113_112.out; have hnb27 := NB112_114.out; have hnc27 := NB114_112.out; obtain ⟨hcz28_0, hcz28_1, hcz28_2, hcz28_3⟩ := hc4 BK112.out; obtain ⟨hfz28_0, hfz28_1, hfz28_2, hfz28_3⟩ := hf4 BK112.out; have hnb29 := NB113_114.out; have hnc29 := NB114_113.out; obtain ⟨hcz30_0, hcz30_1, hcz30_2, hcz30_3⟩ := hc4 BK113.out; obtain ⟨hfz30_0, hfz30_1, hfz30_2, hfz30_3⟩ := hf4 BK113.out) | (go_at_call 67; (with_reducible refine (frac_loose_times.calls k a0_0 a0_1 a0_2 a0_3 a1_0 a1_1 a1_2 a1_3 t115 t116 t117 t118 false _ A4.out).mono ?_); rintro e w31 ⟨rfl, hb⟩; replace BK112 := kb BK112 hb; replace BK113 := kb BK113 hb; replace BK114 := kb BK114 hb; replace HB := sb HB hb; (try clear hb); (try clear hb2); (try clear hk); (try clear hi)) | ((with_reducible refine gate_dst (N := 8) rfl ?_); refine box_event ?hg (N := 8) ?hd (cs := #[.int .i64 0, .int .i64 0, .int .i64 0, .int .i64 0]) (t := 100) ?hr ?_; (case hd => rfl); (case hg => rfl); (case hr => first | (go_simp; done) | (go_simp; rfl)); intro gb120 hg w32 hbox hb; have n0_ := kb BK112 hb; have n1_ := kb BK113 hb; have n2_ := kb BK114 hb; have n3_ := sb HB hb; have n4_ := Aside0.mk (hbox); have n5_ := Aside0.mk ((by rw [hg]; exact (below_size (bl HB.out)) : w.heap.size ≤ gb120)); have n6_ := Aside0.mk ((by rw [hg]; exact (below_size (bl HB.out)) : w.heap.size ≤ gb120)); have n7_ := Aside0.mk ((by rw [hg]; exact Nat.ne_of_lt (blk_lt (kp BK112.out)) : gb112 ≠ gb120)); have n8_ := Aside0.mk ((by rw [hg]; exact Nat.ne_of_gt (blk_lt (kp BK112.out)) : gb120 ≠ gb112)); have n9_ := Aside0.mk ((by rw [hg]; exact Nat.ne_of_lt (blk_lt (kp BK113.out)) : gb113 ≠ gb120)); have n10_ := Aside0.mk ((by rw [hg]; exact Nat.ne_of_gt (blk_lt (kp BK113.out)) : gb120 ≠ gb113)); have n11_ := Aside0.mk ((by rw [hg]; exact Nat.ne_of_lt (blk_lt (kp BK114.out)) : gb114 ≠ gb120)); have n12_ := Aside0.mk ((by rw [hg]; exact Nat.ne_of_gt (blk_lt (kp BK114.out)) : gb120 ≠ gb114)); clear BK112; clear BK113; clear BK114; clear HB; have BK112 := n0_; have BK113 := n1_; have BK114 := n2_; have HB := n3_; have BK120 := n4_; have GW120 := n5_; have GE120 := n6_; have NB112_120 := n7_; have NB120_112 := n8_; have NB113_120 := n9_; have NB120_113 := n10_; have NB114_120 := n11_; have NB120_114 := n12_; clear n0_ n1_ n2_ n3_ n4_ n5_ n6_ n7_ n8_ n9_ n10_ n11_ n12_; clear hb hbox hg; have hnb33 := NB120_112.out; have hnc33 := NB112_120.out; have hnb34 := NB120_113.out; have hnc34 := NB113_120.out; have hnb35 := NB120_114.out; have hnc35 := NB114_120.out; obtain ⟨hcz36_0, hcz36_1, hcz36_2, hcz36_3⟩ := hc4 BK120.out; obtain ⟨hfz36_0, hfz36_1, hfz36_2, hfz36_3⟩ := hf4 BK120.out; obtain ⟨hcz37_0, hcz37_1, hcz37_2⟩ := hc3 BK114.out; obtain ⟨hfz37_0, hfz37_1, hfz37_2⟩ := hf3 BK114.out))
  refine bodyPost_ret (results_ct rfl _ _ gb114 29 #[.int .i64 0, .int .i64 0, .int .i64 0] (0, 0) _ rfl (kp (p3_2 (kp (p3_1 (kp (p3_0 (kp BK114.out))))))) Tryd.underlying29 rfl (by kernel_rfl)) rfl ?_
  exact ⟨by first | rfl | (simp [errW_none, errW_some] <;> rfl) | (simp [*, errW_none, errW_some] <;> rfl), bl HB.out⟩

/-! ### frac_Mul: function 29 -/
mutual
def frac_Mul.j0 : Nat → Bool → Int → Int → Int → Int → Int → Int → Option (Int × Int × Int × Int)
 | 0, _, _, _, _, _, _, _ => none
 | k + 1, x6, x126000, x126001, x126002, x127000, x127001, x127002 => if x6 = true then (some (0, 0, 0, 1)) else (if x126000 = 0 then (frac_Mul.j1 k true x126000 x126001 x126002 x127000 x127001 x127002) else (frac_Mul.j1 k (x127000 == 0) x126000 x126001 x126002 x127000 x127001 x127002))
def frac_Mul.j1 : Nat → Bool → Int → Int → Int → Int → Int → Int → Option (Int × Int × Int × Int)
 | 0, _, _, _, _, _, _, _ => none
 | k + 1, x16, x126000, x126001, x126002, x127000, x127001, x127002 => if x16 = true then (some (0, 1, 0, 0)) else ((frac_loosen.f k x126000 x126001).bind fun bt130 => ((frac_loosen.f k x127000 x127001).bind fun bt134 => ((frac_product.f k bt130.1 bt130.2.1 bt130.2.2.1 bt130.2.2.2 bt134.1 bt134.2.1 bt134.2.2.1 bt134.2.2.2 (wrap64 (x126002 + x127002))).bind fun bt138 => (some (bt138.1, bt138.2.1, bt138.2.2.1, bt138.2.2.2)))))
end
def frac_Mul.f (k : Nat) (a0_0 : Int) (a0_1 : Int) (a0_2 : Int) (a1_0 : Int) (a1_1 : Int) (a1_2 : Int) : Option (Int × Int × Int × Int) := (frac_Right.f k a0_0 a0_1 a0_2).bind fun t128 => (if t128 = true then ((frac_Right.f k a1_0 a1_1 a1_2).bind fun t129 => (frac_Mul.j0 k (!t129) a0_0 a0_1 a0_2 a1_0 a1_1 a1_2)) else (frac_Mul.j0 k true a0_0 a0_1 a0_2 a1_0 a1_1 a1_2))
theorem frac_Mul.mono_l : ∀ k, (∀ y0 y1 y2 y3 y4 y5 y6, LeO (frac_Mul.j0 k y0 y1 y2 y3 y4 y5 y6) (frac_Mul.j0 (k + 1) y0 y1 y2 y3 y4 y5 y6)) ∧ (∀ y0 y1 y2 y3 y4 y5 y6, LeO (frac_Mul.j1 k y0 y1 y2 y3 y4 y5 y6) (frac_Mul.j1 (k + 1) y0 y1 y2 y3 y4 y5 y6))
 | 0 => ⟨fun _ _ _ _ _ _ _ r h => by simp [frac_Mul.j0] at h, fun _ _ _ _ _ _ _ r h => by simp [frac_Mul.j1] at h⟩
 | k + 1 => by
  obtain ⟨ih0, ih1⟩ := frac_Mul.mono_l k
  refine ⟨?_, ?_⟩
  ·intro y0 y1 y2 y3 y4 y5 y6
   unfold frac_Mul.j0
   repeat' first
   | (with_reducible exact ih0 _ _ _ _ _ _ _)
   | (with_reducible exact ih1 _ _ _ _ _ _ _)
   | (with_reducible exact frac_Right.mono _ _ _ _)
   | (with_reducible exact frac_loosen.mono _ _ _)
   | (with_reducible exact frac_product.mono _ _ _ _ _ _ _ _ _ _)
   | (with_reducible exact LeO.refl _)
   | (with_reducible exact LeO.none _)
   | (with_reducible refine LeO.ite ?_ ?_)
   | (with_reducible refine LeO.bind ?_ (fun _ => ?_))
   | exact ih0 _ _ _ _ _ _ _
   | exact ih1 _ _ _ _ _ _ _
   | exact frac_Right.mono _ _ _ _
   | exact frac_loosen.mono _ _ _
   | exact frac_product.mono _ _ _ _ _ _ _ _ _ _
   | exact LeO.none _
   | refine LeO.ite ?_ ?_
   | refine LeO.bind ?_ (fun _ => ?_)
  ·intro y0 y1 y2 y3 y4 y5 y6
   unfold frac_Mul.j1
   repeat' first
   | (with_reducible exact ih0 _ _ _ _ _ _ _)
   | (with_reducible exact ih1 _ _ _ _ _ _ _)
   | (with_reducible exact frac_Right.mono _ _ _ _)
   | (with_reducible exact frac_loosen.mono _ _ _)
   | (with_reducible exact frac_product.mono _ _ _ _ _ _ _ _ _ _)
   | (with_reducible exact LeO.refl _)
   | (with_reducible exact LeO.none _)
   | (with_reducible refine LeO.ite ?_ ?_)
   | (with_reducible refine LeO.bind ?_ (fun _ => ?_))
   | exact ih0 _ _ _ _ _ _ _
   | exact ih1 _ _ _ _ _ _ _
   | exact frac_Right.mono _ _ _ _
   | exact frac_loosen.mono _ _ _
   | exact frac_product.mono _ _ _ _ _ _ _ _ _ _
   | exact LeO.none _
   | refine LeO.ite ?_ ?_
   | refine LeO.bind ?_ (fun _ => ?_)
theorem frac_Mul.mono : ∀ a0 a1 a2 a3 a4 a5 k, LeO (frac_Mul.f k a0 a1 a2 a3 a4 a5) (frac_Mul.f (k + 1) a0 a1 a2 a3 a4 a5) := by
 intro a0 a1 a2 a3 a4 a5 k
 obtain ⟨ih0, ih1⟩ := frac_Mul.mono_l k
 unfold frac_Mul.f
 repeat' first
   | (with_reducible exact ih0 _ _ _ _ _ _ _)
   | (with_reducible exact ih1 _ _ _ _ _ _ _)
   | (with_reducible exact frac_Right.mono _ _ _ _)
   | (with_reducible exact frac_loosen.mono _ _ _)
   | (with_reducible exact frac_product.mono _ _ _ _ _ _ _ _ _ _)
   | (with_reducible exact LeO.refl _)
   | (with_reducible exact LeO.none _)
   | (with_reducible refine LeO.ite ?_ ?_)
   | (with_reducible refine LeO.bind ?_ (fun _ => ?_))
   | exact ih0 _ _ _ _ _ _ _
   | exact ih1 _ _ _ _ _ _ _
   | exact frac_Right.mono _ _ _ _
   | exact frac_loosen.mono _ _ _
   | exact frac_product.mono _ _ _ _ _ _ _ _ _ _
   | exact LeO.none _
   | refine LeO.ite ?_ ?_
   | refine LeO.bind ?_ (fun _ => ?_)
def frac_Mul.T5 : Bool × List (List Nat × List Nat) := (true, [([], []), ([0], [0]), ([], []), ([2], [2]), ([1, 3], [1, 3]), ([], []), ([5], [5]), ([], []), ([7], [7]), ([6, 8, 4], [6, 8]), ([], []), ([10], [10]), ([], []), ([12], [12]), ([11, 13], [11, 13]), ([4, 9, 14, 9], [4, 9, 14]), ([15], [15]), ([15], [15]), ([16, 15, 0, 1, 2, 3, 4, 5, 6, 7, 8, 9, 10, 11, 12, 13, 14, 15, 16, 17], [16]), ([17, 18, 0, 1, 2, 3, 4, 5, 6, 7, 8, 9, 10, 11, 12, 13, 14, 15, 16, 17, 18], [17])])
def frac_Mul.B5 : List Nat := [0, 1, 0, 4, 15, 0, 32, 0, 128, 511, 0, 1024, 0, 4096, 15360, 32767, 65535, 65535, 262143, 524287]
theorem frac_Mul.tab5 : rtab .any (opsOf Tryd.f29 5) = frac_Mul.T5 := by kernel_rfl
theorem frac_Mul.bits5 : waitsOk frac_Mul.T5.2 frac_Mul.B5 = true := by kernel_rfl
set_option maxHeartbeats 8000000 in
set_option maxRecDepth 100000 in
theorem frac_Mul.calls (k : Nat) (a0_0 : Int) (a0_1 : Int) (a0_2 : Int) (a1_0 : Int) (a1_1 : Int) (a1_2 : Int) (r1 : Int) (r2 : Int) (r3 : Int) (r4 : Int) (w : World) (hG : Glob [1] w) (h : frac_Mul.f k a0_0 a0_1 a0_2 a1_0 a1_1 a1_2 = some (r1, r2, r3, r4)) :
  Calls Tryd.prog 29 #[.agg #[.int .i64 a0_0, .int .i64 a0_1, .int .i64 a0_2], .agg #[.int .i64 a1_0, .int .i64 a1_1, .int .i64 a1_2]] w fun e w' => e = .returned (.tuple #[.agg #[.int .i64 r1, .int .i64 r2, .int .i64 r3], .int .i64 r4]) ∧ Below w.heap.size w w' := by
 have hu29 := Tryd.underlying29
 have HB := Aside0.mk (Below.refl w.heap.size w)
 have H : ((frac_Right.f k a0_0 a0_1 a0_2).bind fun t128 => (if t128 = true then ((frac_Right.f k a1_0 a1_1 a1_2).bind fun t129 => (frac_Mul.j0 k (!t129) a0_0 a0_1 a0_2 a1_0 a1_1 a1_2)) else (frac_Mul.j0 k true a0_0 a0_1 a0_2 a1_0 a1_1 a1_2))) = some (r1, r2, r3, r4) := h
 clear h
 have HC3 := Aside0.mk H
 clear H
 go_enter Tryd.func29, Tryd.ntmps29
 go_upto_region 1 with (first | ((with_reducible refine gate_dst (N := 2) rfl ?_); refine box_event ?hg (N := 2) ?hd (cs := #[.int .i64 a0_0, .int .i64 a0_1, .int .i64 a0_2]) (t := 29) ?hr ?_; (case hd => rfl); (case hg => rfl); (case hr => first | (go_simp; done) | (go_simp; rfl)); intro gb125 hg w4 hbox hb; have n0_ := sb HB hb; have n1_ := Aside0.mk (hbox); have n2_ := Aside0.mk ((by rw [hg]; exact (below_size (bl HB.out)) : w.heap.size ≤ gb125)); have n3_ := Aside0.mk ((by rw [hg]; exact (below_size (bl HB.out)) : w.heap.size ≤ gb125)); clear HB; have HB := n0_; have BK125 := n1_; have GW125 := n2_; have GE125 := n3_; clear n0_ n1_ n2_ n3_; clear hb hbox hg) | ((with_reducible refine gate_dst (N := 3) rfl ?_); refine box_event ?hg (N := 3) ?hd (cs := #[.int .i64 a1_0, .int .i64 a1_1, .int .i64 a1_2]) (t := 29) ?hr ?_; (case hd => rfl); (case hg => rfl); (case hr => first | (go_simp; done) | (go_simp; rfl)); intro gb126 hg w5 hbox hb; have n0_ := kb BK125 hb; have n1_ := sb HB hb; have n2_ := Aside0.mk (hbox); have n3_ := Aside0.mk ((by rw [hg]; exact (below_size (bl HB.out)) : w.heap.size ≤ gb126)); have n4_ := Aside0.mk ((by rw [hg]; exact (below_size (bl HB.out)) : w.heap.size ≤ gb126)); have n5_ := Aside0.mk ((by rw [hg]; exact Nat.ne_of_lt (blk_lt (kp BK125.out)) : gb125 ≠ gb126)); have n6_ := Aside0.mk ((by rw [hg]; exact Nat.ne_of_gt (blk_lt (kp BK125.out)) : gb126 ≠ gb125)); clear BK125; clear HB; have BK125 := n0_; have HB := n1_; have BK126 := n2_; have GW126 := n3_; have GE126 := n4_; have NB125_126 := n5_; have NB126_125 := n6_; clear n0_ n1_ n2_ n3_ n4_ n5_ n6_; clear hb hbox hg) | ((with_reducible refine gate_dst (N := 4) rfl ?_); refine box_event ?hg (N := 4) ?hd (cs := #[.int .i64 0, .int .i64 0, .int .i64 0]) (t := 29) ?hr ?_; (case hd => rfl); (case hg => rfl); (case hr => first | (go_simp; done) | (go_simp; rfl)); intro gb127 hg w6 hbox hb; have n0_ := kb BK125 hb; have n1_ := kb BK126 hb; have n2_ := sb HB hb; have n3_ := Aside0.mk (hbox); have n4_ := Aside0.mk ((by rw [hg]; exact (below_size (bl HB.out)) : w.heap.size ≤ gb127)); have n5_ := Aside0.mk ((by rw [hg]; exact (below_size (bl HB.out)) : w.heap.size ≤ gb127)); have n6_ := Aside0.mk ((by rw [hg]; exact Nat.ne_of_lt (blk_lt (kp BK125.out)) : gb125 ≠ gb127)); have n7_ := Aside0.mk ((by rw [hg]; exact Nat.ne_of_gt (blk_lt (kp BK125.out)) : gb127 ≠ gb125)); have n8_ := Aside0.mk ((by rw [hg]; exact Nat.ne_of_lt (blk_lt (kp BK126.out)) : gb126 ≠ gb127)); have n9_ := Aside0.mk ((by rw [hg]; exact Nat.ne_of_gt (blk_lt (kp BK126.out)) : gb127 ≠ gb126)); clear BK125; clear BK126; clear HB; have BK125 := n0_; have BK126 := n1_; have HB := n2_; have BK127 := n3_; have GW127 := n4_; have GE127 := n5_; have NB125_127 := n6_; have NB127_125 := n7_; have NB126_127 := n8_; have NB127_126 := n9_; clear n0_ n1_ n2_ n3_ n4_ n5_ n6_ n7_ n8_ n9_; clear hb hbox hg))
 (try simp only [Act.put, List.setIfInBounds_toArray, List.set_cons_zero, List.set_cons_succ])
 go_cut [6] (fun v6 wc => ∃ (kq : Nat) (x6_2 : Bool), v6 = .bool x6_2 ∧ Aside0 (frac_Mul.j0 kq x6_2 a0_0 a0_1 a0_2 a1_0 a1_1 a1_2 = some (r1, r2, r3, r4)) ∧ Aside0 (kq ≤ k) ∧ Aside0 (wc.heap[gb125]? = some (.cells #[.int .i64 a0_0, .int .i64 a0_1, .int .i64 a0_2] 29 (0, 0))) ∧ Aside0 (wc.heap[gb126]? = some (.cells #[.int .i64 a1_0, .int .i64 a1_1, .int .i64 a1_2] 29 (0, 0))) ∧ Aside0 (wc.heap[gb127]? = some (.cells #[.int .i64 0, .int .i64 0, .int .i64 0] 29 (0, 0))) ∧ Aside0 (Below w.heap.size w wc))
 case first =>
  have H := HC3.out
  clear HC3
  replace H := Option.bind_eq_some_iff.mp H
  obtain ⟨t128, A70, H⟩ := H
  replace H : (if t128 = true then ((frac_Right.f k a1_0 a1_1 a1_2).bind fun t129 => (frac_Mul.j0 k (!t129) a0_0 a0_1 a0_2 a1_0 a1_1 a1_2)) else (frac_Mul.j0 k true a0_0 a0_1 a0_2 a1_0 a1_1 a1_2)) = some (r1, r2, r3, r4) := H
  have A7 := Aside0.mk A70
  clear A70
  by_cases c8 : t128 = true
  ·subst c8
   have H1 : ((frac_Right.f k a1_0 a1_1 a1_2).bind fun t129 => (frac_Mul.j0 k (!t129) a0_0 a0_1 a0_2 a1_0 a1_1 a1_2)) = some (r1, r2, r3, r4) := by rw [if_pos rfl] at H; exact H
   clear H
   have H := H1
   clear H1
   replace H := Option.bind_eq_some_iff.mp H
   obtain ⟨t129, A90, H⟩ := H
   replace H : (frac_Mul.j0 k (!t129) a0_0 a0_1 a0_2 a1_0 a1_1 a1_2) = some (r1, r2, r3, r4) := H
   have A9 := Aside0.mk A90
   clear A90
   have H' := Aside0.mk H
   clear H
   have hnb10 := NB125_126.out
   have hnc10 := NB126_125.out
   have hnb11 := NB125_127.out
   have hnc11 := NB127_125.out
   obtain ⟨hcz12_0, hcz12_1, hcz12_2⟩ := hc3 BK125.out
   obtain ⟨hfz12_0, hfz12_1, hfz12_2⟩ := hf3 BK125.out
   go_wp2_with (first | (go_at_call 47; (with_reducible refine (frac_Right.calls k a0_0 a0_1 a0_2 true _ A7.out).mono ?_); rintro e w13 ⟨rfl, hb⟩; replace BK125 := kb BK125 hb; replace BK126 := kb BK126 hb; replace BK127 := kb BK127 hb; replace HB := sb HB hb; (try clear hb); (try clear hb2); (try clear hk); (try clear hi); have hnb14 := NB126_127.out; have hnc14 := NB127_126.out; obtain ⟨hcz15_0, hcz15_1, hcz15_2⟩ := hc3 BK126.out; obtain ⟨hfz15_0, hfz15_1, hfz15_2⟩ := hf3 BK126.out) | (go_at_call 47; (with_reducible refine (frac_Right.calls k a1_0 a1_1 a1_2 t129 _ A9.out).mono ?_); rintro e w16 ⟨rfl, hb⟩; replace BK125 := kb BK125 hb; replace BK126 := kb BK126 hb; replace BK127 := kb BK127 hb; replace HB := sb HB hb; (try clear hb); (try clear hb2); (try clear hk); (try clear hi)))
   go_meet
   case rel => exact ⟨_, (!t129), (by first | rfl | (simp; done) | (simp [*]; done)), H', ⟨by first | omega | exact Nat.le_refl _⟩, ⟨kp BK125.out⟩, ⟨kp BK126.out⟩, ⟨kp BK127.out⟩, ⟨bl HB.out⟩⟩
  ·replace c8 := Bool.eq_false_iff.mpr c8
   subst c8
   have H1 : (frac_Mul.j0 k true a0_0 a0_1 a0_2 a1_0 a1_1 a1_2) = some (r1, r2, r3, r4) := by rw [if_neg (show ¬ (false = true) by decide)] at H; exact H
   clear H
   have H := H1
   clear H1
   have H' := Aside0.mk H
   clear H
   have hnb17 := NB125_126.out
   have hnc17 := NB126_125.out
   have hnb18 := NB125_127.out
   have hnc18 := NB127_125.out
   obtain ⟨hcz19_0, hcz19_1, hcz19_2⟩ := hc3 BK125.out
   obtain ⟨hfz19_0, hfz19_1, hfz19_2⟩ := hf3 BK125.out
   go_wp2_with (first | (go_at_call 47; (with_reducible refine (frac_Right.calls k a0_0 a0_1 a0_2 false _ A7.out).mono ?_); rintro e w20 ⟨rfl, hb⟩; replace BK125 := kb BK125 hb; replace BK126 := kb BK126 hb; replace BK127 := kb BK127 hb; replace HB := sb HB hb; (try clear hb); (try clear hb2); (try clear hk); (try clear hi)))
   go_meet
   case rel => exact ⟨_, (true), (by first | rfl | (simp; done) | (simp [*]; done)), H', ⟨by first | omega | exact Nat.le_refl _⟩, ⟨kp BK125.out⟩, ⟨kp BK126.out⟩, ⟨kp BK127.out⟩, ⟨bl HB.out⟩⟩
 case rest =>
  clear HC3
  try clear c1
  try clear c2
  try clear p2
  try clear c4
  try clear c8
  try clear c10
  try clear c11
  try clear c14
  try clear c17
  try clear c18
  try clear hcz12_0 hcz12_1 hcz12_2
  try clear hcz15_0 hcz15_1 hcz15_2
  try clear hcz19_0 hcz19_1 hcz19_2
  try clear hfz12_0 hfz12_1 hfz12_2
  try clear hfz15_0 hfz15_1 hfz15_2
  try clear hfz19_0 hfz19_1 hfz19_2
  obtain ⟨kq, x6_2, rfl, HA, HJ2, BK125, BK126, BK127, HB⟩ := hcut
  cases kq with
  | zero => exact absurd HA.out (by simp [frac_Mul.j0])
  | succ kj2 =>
   have H := HA.out
   clear HA
   simp only [frac_Mul.j0] at H
   by_cases c21 : x6_2 = true
   ·subst c21
    have H1 : (some (0, 0, 0, 1)) = some (r1, r2, r3, r4) := by rw [if_pos rfl] at H; exact H
    clear H
    have H := H1
    clear H1
    simp only [Option.some.injEq, Prod.mk.injEq] at H
    obtain ⟨rfl, rfl, rfl, rfl⟩ := H
    have hnb22 := NB127_125.out
    have hnc22 := NB125_127.out
    have hnb23 := NB127_126.out
    have hnc23 := NB126_127.out
    obtain ⟨hcz24_0, hcz24_1, hcz24_2⟩ := hc3 BK127.out
    obtain ⟨hfz24_0, hfz24_1, hfz24_2⟩ := hf3 BK127.out
    go_wp2
    refine bodyPost_ret (results_ct rfl _ _ gb127 29 #[.int .i64 0, .int .i64 0, .int .i64 0] (0, 0) _ rfl (kp (p3_2 (kp (p3_1 (kp (p3_0 (kp BK127.out))))))) Tryd.underlying29 rfl (by kernel_rfl)) rfl ?_
    exact ⟨by first | rfl | (simp [errW_none, errW_some] <;> rfl) | (simp [*, errW_none, errW_some] <;> rfl), bl HB.out⟩
   ·replace c21 := Bool.eq_false_iff.mpr c21
    subst c21
    have H1 : (if a0_0 = 0 then (frac_Mul.j1 kj2 true a0_0 a0_1 a0_2 a1_0 a1_1 a1_2) else (frac_Mul.j1 kj2 (a1_0 == 0) a0_0 a0_1 a0_2 a1_0 a1_1 a1_2)) = some (r1, r2, r3, r4) := by rw [if_neg (show ¬ (false = true) by decide)] at H; exact H
    clear H
    have H := H1
    clear H1
    have HC25 := Aside0.mk H
    clear H
    go_upto_region 3 with (fail)
    go_cut [16] (fun v16 wc => ∃ (kq : Nat) (x16_24 : Bool), v16 = .bool x16_24 ∧ Aside0 (frac_Mul.j1 kq x16_24 a0_0 a0_1 a0_2 a1_0 a1_1 a1_2 = some (r1, r2, r3, r4)) ∧ Aside0 (kq ≤ kj2) ∧ Aside0 (wc.heap[gb125]? = some (.cells #[.int .i64 a0_0, .int .i64 a0_1, .int .i64 a0_2] 29 (0, 0))) ∧ Aside0 (wc.heap[gb126]? = some (.cells #[.int .i64 a1_0, .int .i64 a1_1, .int .i64 a1_2] 29 (0, 0))) ∧ Aside0 (wc.heap[gb127]? = some (.cells #[.int .i64 0, .int .i64 0, .int .i64 0] 29 (0, 0))) ∧ Aside0 (Below w.heap.size w wc))
    case first =>
     have H := HC25.out
     clear HC25
     by_cases c26 : a0_0 = 0
     ·rw [if_pos c26] at H
      have c26b0 : (a0_0 == 0) = true := beq_iff_eq.mpr c26
      have c26b1 : (a0_0 != 0) = false := bne_eq_false_iff_eq.mpr c26
      clear c26
      (first | rw [c26b0] | (simp only [i64_w, i32_w]; rw [c26b0]) | skip)
      have H' := Aside0.mk H
      clear H
      have hnb27 := NB125_126.out
      have hnc27 := NB126_125.out
      have hnb28 := NB125_127.out
      have hnc28 := NB127_125.out
      obtain ⟨hcz29_0, hcz29_1, hcz29_2⟩ := hc3 BK125.out
      obtain ⟨hfz29_0, hfz29_1, hfz29_2⟩ := hf3 BK125.out
      go_wp2
      go_meet
      case rel => exact ⟨_, (true), (by first | rfl | (simp; done) | (simp [*]; done)), H', ⟨by have := HJ2.out; first | omega | exact Nat.le_refl _⟩, ⟨kp BK125.out⟩, ⟨kp BK126.out⟩, ⟨kp BK127.out⟩, ⟨bl HB.out⟩⟩
     ·rw [if_neg c26] at H
      have c26b0 : (a0_0 == 0) = false := beq_eq_false_iff_ne.mpr c26
      have c26b1 : (a0_0 != 0) = true := bne_iff_ne.mpr c26
      (first | rw [c26b0] | (simp only [i64_w, i32_w]; rw [c26b0]) | skip)
      have H' := Aside0.mk H
      clear H
      have hnb30 := NB125_126.out
      have hnc30 := NB126_125.out
      have hnb31 := NB125_127.out
      have hnc31 := NB127_125.out
      obtain ⟨hcz32_0, hcz32_1, hcz32_2⟩ := hc3 BK125.out
      obtain ⟨hfz32_0, hfz32_1, hfz32_2⟩ := hf3 BK125.out
      have hnb33 := NB126_127.out
      have hnc33 := NB127_126.out
      obtain ⟨hcz34_0, hcz34_1, hcz34_2⟩ := hc3 BK126.out
      obtain ⟨hfz34_0, hfz34_1, hfz34_2⟩ := hf3 BK126.out
      go_wp2
      go_meet
      case rel => exact ⟨_, ((a1_0 == 0)), (by first | rfl | (simp; done) | (simp [*]; done)), H', ⟨by have := HJ2.out; first | omega | exact Nat.le_refl _⟩, ⟨kp BK125.out⟩, ⟨kp BK126.out⟩, ⟨kp BK127.out⟩, ⟨bl HB.out⟩⟩
    case rest =>
     clear HC25
     try clear c1
     try clear c2
     try clear p2
     try clear c3
     try clear c4
     try clear c8
     try clear c10
     try clear c11
     try clear c14
     try clear c17
     try clear c18
     try clear c21
     try clear c22
     try clear c23
     try clear c26
     try clear c26b0
     try clear c26b1
     try clear c27
     try clear c28
     try clear c29
     try clear c30
     try clear c31
     try clear c33
     try clear hcz12_0 hcz12_1 hcz12_2
     try clear hcz15_0 hcz15_1 hcz15_2
     try clear hcz19_0 hcz19_1 hcz19_2
     try clear hcz24_0 hcz24_1 hcz24_2
     try clear hcz29_0 hcz29_1 hcz29_2
     try clear hcz32_0 hcz32_1 hcz32_2
     try clear hcz34_0 hcz34_1 hcz34_2
     try clear hfz12_0 hfz12_1 hfz12_2
     try clear hfz15_0 hfz15_1 hfz15_2
     try clear hfz19_0 hfz19_1 hfz19_2
     try clear hfz24_0 hfz24_1 hfz24_2
     try clear hfz29_0 hfz29_1 hfz29_2
     try clear hfz32_0 hfz32_1 hfz32_2
     try clear hfz34_0 hfz34_1 hfz34_2
     try clear p2
     obtain ⟨kq, x16_24, rfl, HA, HJ24, BK125, BK126, BK127, HB⟩ := hcut
     cases kq with
     | zero => exact absurd HA.out (by simp [frac_Mul.j1])
     | succ kj24 =>
      have H := HA.out
      clear HA
      simp only [frac_Mul.j1] at H
      by_cases c35 : x16_24 = true
      ·subst c35
       have H1 : (some (0, 1, 0, 0)) = some (r1, r2, r3, r4) := by rw [if_pos rfl] at H; exact H
       clear H
       have H := H1
       clear H1
       simp only [Option.some.injEq, Prod.mk.injEq] at H
       obtain ⟨rfl, rfl, rfl, rfl⟩ := H
       have hnb36 := NB127_125.out
       have hnc36 := NB125_127.out
       have hnb37 := NB127_126.out
       have hnc37 := NB126_127.out
       obtain ⟨hcz38_0, hcz38_1, hcz38_2⟩ := hc3 BK127.out
       obtain ⟨hfz38_0, hfz38_1, hfz38_2⟩ := hf3 BK127.out
       go_wp2
       refine bodyPost_ret (results_ct rfl _ _ gb127 29 #[.int .i64 0, .int .i64 1, .int .i64 0] (0, 0) _ rfl (kp (p3_2 (kp (p3_1 (kp (p3_0 (kp BK127.out))))))) Tryd.underlying29 rfl (by kernel_rfl)) rfl ?_
       exact ⟨by first | rfl | (simp [errW_none, errW_some] <;> rfl) | (simp [*, errW_none, errW_some] <;> rfl), bl HB.out⟩
      ·replace c35 := Bool.eq_false_iff.mpr c35
       subst c35
       have H1 : ((frac_loosen.f kj24 a0_0 a0_1).bind fun bt130 => ((frac_loosen.f kj24 a1_0 a1_1).bind fun bt134 => ((frac_product.f kj24 bt130.1 bt130.2.1 bt130.2.2.1 bt130.2.2.2 bt134.1 bt134.2.1 bt134.2.2.1 bt134.2.2.2 (wrap64 (a0_2 + a1_2))).bind fun bt138 => (some (bt138.1, bt138.2.1, bt138.2.2.1, bt138.2.2.2))))) = some (r1, r2, r3, r4) := by rw [if_neg (show ¬ (false = true) by decide)] at H; exact H
       clear H
       have H := H1
       clear H1
       replace H := Option.bind_eq_some_iff.mp H
       obtain ⟨⟨t130, t131, t132, t133⟩, A390, H⟩ := H
       replace H : ((frac_loosen.f kj24 a1_0 a1_1).bind fun bt134 => ((frac_product.f kj24 t130 t131 t132 t133 bt134.1 bt134.2.1 bt134.2.2.1 bt134.2.2.2 (wrap64 (a0_2 + a1_2))).bind fun bt138 => (some (bt138.1, bt138.2.1, bt138.2.2.1, bt138.2.2.2)))) = some (r1, r2, r3, r4) := H
       have A39 := Aside0.mk A390
       clear A390
       replace H := Option.bind_eq_some_iff.mp H
       obtain ⟨⟨t134, t135, t136, t137⟩, A400, H⟩ := H
       replace H : ((frac_product.f kj24 t130 t131 t132 t133 t134 t135 t136 t137 (wrap64 (a0_2 + a1_2))).bind fun bt138 => (some (bt138.1, bt138.2.1, bt138.2.2.1, bt138.2.2.2))) = some (r1, r2, r3, r4) := H
       have A40 := Aside0.mk A400
       clear A400
       replace H := Option.bind_eq_some_iff.mp H
       obtain ⟨⟨t138, t139, t140, t141⟩, A410, H⟩ := H
       replace H : (some (t138, t139, t140, t141)) = some (r1, r2, r3, r4) := H
       have A41 := Aside0.mk A410
       clear A410
       simp only [Option.some.injEq, Prod.mk.injEq] at H
       obtain ⟨rfl, rfl, rfl, rfl⟩ := H
       try go_wp2
       (try (rw [drewN_self wc]; generalize hq_ : World.drewN wc _ = wc; replace BK125 := Aside0.mk (kq hq_ BK125.out); replace BK126 := Aside0.mk (kq hq_ BK126.out); replace BK127 := Aside0.mk (kq hq_ BK127.out); replace HB := Aside0.mk (bq hq_ HB.out); clear hq_))
       replace BK125 := Aside0.mk (blk_drew BK125.out)
       replace BK126 := Aside0.mk (blk_drew BK126.out)
       replace BK127 := Aside0.mk (blk_drew BK127.out)
       replace HB := Aside0.mk (below_drew1 HB.out)
       refine start_ (n := 20) (S := fun w' => w'.cell? ⟨gb125, 0, none⟩ = some (.int .i64 a0_0) ∧ w'.cell? ⟨gb125, 1, none⟩ = some (.int .i64 a0_1) ∧ w'.cell? ⟨gb125, 2, none⟩ = some (.int .i64 a0_2) ∧ w'.cell? ⟨gb126, 0, none⟩ = some (.int .i64 a1_0) ∧ w'.cell? ⟨gb126, 1, none⟩ = some (.int .i64 a1_1) ∧ w'.cell? ⟨gb126, 2, none⟩ = some (.int .i64 a1_2)) (ds := []) #[false, false, false, false, false, false, false, false, false, false, false, false, false, false, false, false, false, false, false, false] (by kernel_rfl) rfl rfl ⟨(blk_cell BK125.out 0).trans rfl, (blk_cell BK125.out 1).trans rfl, (blk_cell BK125.out 2).trans rfl, (blk_cell BK126.out 0).trans rfl, (blk_cell BK126.out 1).trans rfl, (blk_cell BK126.out 2).trans rfl⟩ (fun hHeld => ?_); refine with_tabW frac_Mul.tab5 frac_Mul.bits5 (fun HT_ HW_ => ?_)
       generalize wc.drew = w42 at BK125 BK126 BK127 HB hHeld ⊢
       refine pure_ (i := 0) (N := some 26) (v := ?_) (a' := ?_) #[true, false, false, false, false, false, false, false, false, false, false, false, false, false, false, false, false, false, false, false] rfl rfl (any_of HT_.out (by kernel_rfl)) (fun _ _ _ h => h) (Or.inl ⟨by rfl, ?_⟩) ?_ ?_
       rotate_left
       ·intro w'
        go_simp
        with_reducible rfl
       rotate_left
       ·simp only [Act.put, List.setIfInBounds_toArray, List.set_cons_zero, List.set_cons_succ, i64_w, i32_w]
        rfl
       refine pure_ (i := 2) (N := some 28) (v := ?_) (a' := ?_) #[true, false, true, false, false, false, false, false, false, false, false, false, false, false, false, false, false, false, false, false] rfl rfl (any_of HT_.out (by kernel_rfl)) (fun _ _ _ h => h) (Or.inl ⟨by rfl, ?_⟩) ?_ ?_
       rotate_left
       ·intro w'
        go_simp
        with_reducible rfl
       rotate_left
       ·simp only [Act.put, List.setIfInBounds_toArray, List.set_cons_zero, List.set_cons_succ, i64_w, i32_w]
        rfl
       refine pure_ (i := 5) (N := some 31) (v := ?_) (a' := ?_) #[true, false, true, false, false, true, false, false, false, false, false, false, false, false, false, false, false, false, false, false] rfl rfl (any_of HT_.out (by kernel_rfl)) (fun _ _ _ h => h) (Or.inl ⟨by rfl, ?_⟩) ?_ ?_
       rotate_left
       ·intro w'
        go_simp
        with_reducible rfl
       rotate_left
       ·simp only [Act.put, List.setIfInBounds_toArray, List.set_cons_zero, List.set_cons_succ, i64_w, i32_w]
        rfl
       refine pure_ (i := 7) (N := some 33) (v := ?_) (a' := ?_) #[true, false, true, false, false, true, false, true, false, false, false, false, false, false, false, false, false, false, false, false] rfl rfl (any_of HT_.out (by kernel_rfl)) (fun _ _ _ h => h) (Or.inl ⟨by rfl, ?_⟩) ?_ ?_
       rotate_left
       ·intro w'
        go_simp
        with_reducible rfl
       rotate_left
       ·simp only [Act.put, List.setIfInBounds_toArray, List.set_cons_zero, List.set_cons_succ, i64_w, i32_w]
        rfl
       refine pure_ (i := 10) (N := some 36) (v := ?_) (a' := ?_) #[true, false, true, false, false, true, false, true, false, false, true, false, false, false, false, false, false, false, false, false] rfl rfl (any_of HT_.out (by kernel_rfl)) (fun _ _ _ h => h) (Or.inl ⟨by rfl, ?_⟩) ?_ ?_
       rotate_left
       ·intro w'
        go_simp
        with_reducible rfl
       rotate_left
       ·simp only [Act.put, List.setIfInBounds_toArray, List.set_cons_zero, List.set_cons_succ, i64_w, i32_w]
        rfl
       refine pure_ (i := 12) (N := some 38) (v := ?_) (a' := ?_) #[true, false, true, false, false, true, false, true, false, false, true, false, true, false, false, false, false, false, false, false] rfl rfl (any_of HT_.out (by kernel_rfl)) (fun _ _ _ h => h) (Or.inl ⟨by rfl, ?_⟩) ?_ ?_
       rotate_left
       ·intro w'
        go_simp
        with_reducible rfl
       rotate_left
       ·simp only [Act.put, List.setIfInBounds_toArray, List.set_cons_zero, List.set_cons_succ, i64_w, i32_w]
        rfl
       refine take_ (i := 1) (N := some 27) (v := ?_) (a' := ?_) #[true, true, true, false, false, true, false, true, false, false, true, false, true, false, false, false, false, false, false, false] rfl rfl (take_ofW HT_.out HW_.out (by kernel_rfl)) (fun _ _ _ h => h) (Or.inl ⟨by rfl, ?_⟩) hHeld ?_ ?_
       rotate_left
       ·rintro w' ⟨s0, s1, s2, s3, s4, s5⟩
        go_simp
        with_reducible rfl
       rotate_left
       ·simp only [Act.put, List.setIfInBounds_toArray, List.set_cons_zero, List.set_cons_succ, i64_w, i32_w]
        rfl
       refine take_ (i := 3) (N := some 29) (v := ?_) (a' := ?_) #[true, true, true, true, false, true, false, true, false, false, true, false, true, false, false, false, false, false, false, false] rfl rfl (take_ofW HT_.out HW_.out (by kernel_rfl)) (fun _ _ _ h => h) (Or.inl ⟨by rfl, ?_⟩) hHeld ?_ ?_
       rotate_left
       ·rintro w' ⟨s0, s1, s2, s3, s4, s5⟩
        go_simp
        with_reducible rfl
       rotate_left
       ·simp only [Act.put, List.setIfInBounds_toArray, List.set_cons_zero, List.set_cons_succ, i64_w, i32_w]
        rfl
       refine take_ (i := 6) (N := some 32) (v := ?_) (a' := ?_) #[true, true, true, true, false, true, true, true, false, false, true, false, true, false, false, false, false, false, false, false] rfl rfl (take_ofW HT_.out HW_.out (by kernel_rfl)) (fun _ _ _ h => h) (Or.inl ⟨by rfl, ?_⟩) hHeld ?_ ?_
       rotate_left
       ·rintro w' ⟨s0, s1, s2, s3, s4, s5⟩
        go_simp
        with_reducible rfl
       rotate_left
       ·simp only [Act.put, List.setIfInBounds_toArray, List.set_cons_zero, List.set_cons_succ, i64_w, i32_w]
        rfl
       refine take_ (i := 8) (N := some 34) (v := ?_) (a' := ?_) #[true, true, true, true, false, true, true, true, true, false, true, false, true, false, false, false, false, false, false, false] rfl rfl (take_ofW HT_.out HW_.out (by kernel_rfl)) (fun _ _ _ h => h) (Or.inl ⟨by rfl, ?_⟩) hHeld ?_ ?_
       rotate_left
       ·rintro w' ⟨s0, s1, s2, s3, s4, s5⟩
        go_simp
        with_reducible rfl
       rotate_left
       ·simp only [Act.put, List.setIfInBounds_toArray, List.set_cons_zero, List.set_cons_succ, i64_w, i32_w]
        rfl
       refine take_ (i := 11) (N := some 37) (v := ?_) (a' := ?_) #[true, true, true, true, false, true, true, true, true, false, true, true, true, false, false, false, false, false, false, false] rfl rfl (take_ofW HT_.out HW_.out (by kernel_rfl)) (fun _ _ _ h => h) (Or.inl ⟨by rfl, ?_⟩) hHeld ?_ ?_
       rotate_left
       ·rintro w' ⟨s0, s1, s2, s3, s4, s5⟩
        go_simp
        with_reducible rfl
       rotate_left
       ·simp only [Act.put, List.setIfInBounds_toArray, List.set_cons_zero, List.set_cons_succ, i64_w, i32_w]
        rfl
       refine take_ (i := 13) (N := some 39) (v := ?_) (a' := ?_) #[true, true, true, true, false, true, true, true, true, false, true, true, true, true, false, false, false, false, false, false] rfl rfl (take_ofW HT_.out HW_.out (by kernel_rfl)) (fun _ _ _ h => h) (Or.inl ⟨by rfl, ?_⟩) hHeld ?_ ?_
       rotate_left
       ·rintro w' ⟨s0, s1, s2, s3, s4, s5⟩
        go_simp
        with_reducible rfl
       rotate_left
       ·simp only [Act.put, List.setIfInBounds_toArray, List.set_cons_zero, List.set_cons_succ, i64_w, i32_w]
        rfl
       refine pure_ (i := 14) (N := some 40) (v := ?_) (a' := ?_) #[true, true, true, true, false, true, true, true, true, false, true, true, true, true, true, false, false, false, false, false] rfl rfl (any_of HT_.out (by kernel_rfl)) (fun _ _ _ h => h) (Or.inl ⟨by rfl, ?_⟩) ?_ ?_
       rotate_left
       ·intro w'
        go_simp
        with_reducible rfl
       rotate_left
       ·simp only [Act.put, List.setIfInBounds_toArray, List.set_cons_zero, List.set_cons_succ, i64_w, i32_w]
        rfl
       refine one_ (i := 4) (N := some 30) #[true, true, true, true, true, true, true, true, true, false, true, true, true, true, true, false, false, false, false, false] rfl rfl (one_of HT_.out (by kernel_rfl)) (by decide) (fun K hK => ?_)
       refine goes_ Tryd.func60 (by kernel_rfl) rfl #[.int .i64 a0_0, .int .i64 a0_1] (by rfl) rfl rfl (by (try simp only [List.map_toArray, List.map_cons, List.map_nil]); first | done | rfl | (simp only [List.length_drop, List.length_take]; rfl)) ?_
       with_reducible refine (frac_loosen.calls kj24 a0_0 a0_1 t130 t131 t132 t133 _ (Glob.use hG (by decide) (by repeat (first | (with_reducible first | exact HB.out | exact Below.refl _ _ | apply below_alloc | apply pw_below_drewN | apply below_drew1) | exact HB.out | exact Below.refl _ _))) A39.out).mono ?_
       rintro e w43 ⟨rfl, hb⟩
       refine ⟨_, rfl, ?_⟩
       replace BK125 := kb BK125 hb
       replace BK126 := kb BK126 hb
       replace BK127 := kb BK127 hb
       replace HB := sb HB hb
       (try clear hb)
       (try clear hb2)
       (try clear hk)
       (try clear hi)
       refine hK.out _ _ ⟨(blk_cell BK125.out 0).trans rfl, (blk_cell BK125.out 1).trans rfl, (blk_cell BK125.out 2).trans rfl, (blk_cell BK126.out 0).trans rfl, (blk_cell BK126.out 1).trans rfl, (blk_cell BK126.out 2).trans rfl⟩ (fun hHeld => ?_)
       clear hK K
       refine norm_ (a' := ?_) ?_ ?_
       rotate_left
       ·show Act.put _ (some 30) _ = _
        simp only [Act.put, List.setIfInBounds_toArray, List.set_cons_zero, List.set_cons_succ, i64_w, i32_w]
        rfl
       refine one_ (i := 9) (N := some 35) #[true, true, true, true, true, true, true, true, true, true, true, true, true, true, true, false, false, false, false, false] rfl rfl (one_of HT_.out (by kernel_rfl)) (by decide) (fun K hK => ?_)
       refine goes_ Tryd.func60 (by kernel_rfl) rfl #[.int .i64 a1_0, .int .i64 a1_1] (by rfl) rfl rfl (by (try simp only [List.map_toArray, List.map_cons, List.map_nil]); first | done | rfl | (simp only [List.length_drop, List.length_take]; rfl)) ?_
       with_reducible refine (frac_loosen.calls kj24 a1_0 a1_1 t134 t135 t136 t137 _ (Glob.use hG (by decide) (by repeat (first | (with_reducible first | exact HB.out | exact Below.refl _ _ | apply below_alloc | apply pw_below_drewN | apply below_drew1) | exact HB.out | exact Below.refl _ _))) A40.out).mono ?_
       rintro e w44 ⟨rfl, hb⟩
       refine ⟨_, rfl, ?_⟩
       replace BK125 := kb BK125 hb
       replace BK126 := kb BK126 hb
       replace BK127 := kb BK127 hb
       replace HB := sb HB hb
       (try clear hb)
       (try clear hb2)
       (try clear hk)
       (try clear hi)
       refine hK.out _ _ ⟨(blk_cell BK125.out 0).trans rfl, (blk_cell BK125.out 1).trans rfl, (blk_cell BK125.out 2).trans rfl, (blk_cell BK126.out 0).trans rfl, (blk_cell BK126.out 1).trans rfl, (blk_cell BK126.out 2).trans rfl⟩ (fun hHeld => ?_)
       clear hK K
       refine norm_ (a' := ?_) ?_ ?_
       rotate_left
       ·show Act.put _ (some 35) _ = _
        simp only [Act.put, List.setIfInBounds_toArray, List.set_cons_zero, List.set_cons_succ, i64_w, i32_w]
        rfl
       refine one_ (i := 15) (N := some 41) #[true, true, true, true, true, true, true, true, true, true, true, true, true, true, true, true, false, false, false, false] rfl rfl (one_of HT_.out (by kernel_rfl)) (by decide) (fun K hK => ?_)
       refine goes_ Tryd.func59 (by kernel_rfl) rfl #[.agg #[.int .i64 t130, .int .i64 t131, .int .i64 t132, .int .i64 t133], .agg #[.int .i64 t134, .int .i64 t135, .int .i64 t136, .int .i64 t137], .int .i64 (wrap64 (a0_2 + a1_2))] (by rfl) rfl rfl (by (try simp only [List.map_toArray, List.map_cons, List.map_nil]); first | done | rfl | (simp only [List.length_drop, List.length_take]; rfl)) ?_
       with_reducible refine (frac_product.calls kj24 t130 t131 t132 t133 t134 t135 t136 t137 (wrap64 (a0_2 + a1_2)) t138 t139 t140 t141 _ (Glob.use hG (by decide) (by repeat (first | (with_reducible first | exact HB.out | exact Below.refl _ _ | apply below_alloc | apply pw_below_drewN | apply below_drew1) | exact HB.out | exact Below.refl _ _))) A41.out).mono ?_
       rintro e w45 ⟨rfl, hb⟩
       refine ⟨_, rfl, ?_⟩
       replace BK125 := kb BK125 hb
       replace BK126 := kb BK126 hb
       replace BK127 := kb BK127 hb
       replace HB := sb HB hb
       (try clear hb)
       (try clear hb2)
       (try clear hk)
       (try clear hi)
       refine hK.out _ _ ⟨(blk_cell BK125.out 0).trans rfl, (blk_cell BK125.out 1).trans rfl, (blk_cell BK125.out 2).trans rfl, (blk_cell BK126.out 0).trans rfl, (blk_cell BK126.out 1).trans rfl, (blk_cell BK126.out 2).trans rfl⟩ (fun hHeld => ?_)
       clear hK K
       refine norm_ (a' := ?_) ?_ ?_
       rotate_left
       ·show Act.put _ (some 41) _ = _
        simp only [Act.put, List.setIfInBounds_toArray, List.set_cons_zero, List.set_cons_succ, i64_w, i32_w]
        rfl
       refine pure_ (i := 16) (N := some 42) (v := ?_) (a' := ?_) #[true, true, true, true, true, true, true, true, true, true, true, true, true, true, true, true, true, false, false, false] rfl rfl (any_of HT_.out (by kernel_rfl)) (fun _ _ _ h => h) (Or.inl ⟨by rfl, ?_⟩) ?_ ?_
       rotate_left
       ·intro w'
        go_simp
        with_reducible rfl
       rotate_left
       ·simp only [Act.put, List.setIfInBounds_toArray, List.set_cons_zero, List.set_cons_succ, i64_w, i32_w]
        rfl
       refine pure_ (i := 17) (N := some 43) (v := ?_) (a' := ?_) #[true, true, true, true, true, true, true, true, true, true, true, true, true, true, true, true, true, true, false, false] rfl rfl (any_of HT_.out (by kernel_rfl)) (fun _ _ _ h => h) (Or.inl ⟨by rfl, ?_⟩) ?_ ?_
       rotate_left
       ·intro w'
        go_simp
        with_reducible rfl
       rotate_left
       ·simp only [Act.put, List.setIfInBounds_toArray, List.set_cons_zero, List.set_cons_succ, i64_w, i32_w]
        rfl
       refine one_ (i := 18) (N := none) #[true, true, true, true, true, true, true, true, true, true, true, true, true, true, true, true, true, true, true, false] rfl rfl (one_of HT_.out (by kernel_rfl)) (by decide) (fun K hK => ?_)
       have hs46 : w45.cell? ⟨gb127, 0, none⟩ = some (.int .i64 0) := (blk_cell BK127.out 0).trans rfl
       have hfs46 := blk_frozen BK127.out 0
       have hns46_0 := NB125_127.out
       have hns46_1 := NB126_127.out
       have hms46_0 := NB127_125.out
       have hms46_1 := NB127_126.out
       have hs47 : w45.cell? ⟨gb127, 1, none⟩ = some (.int .i64 0) := (blk_cell BK127.out 1).trans rfl
       have hfs47 := blk_frozen BK127.out 1
       have hns47_0 := NB125_127.out
       have hns47_1 := NB126_127.out
       have hms47_0 := NB127_125.out
       have hms47_1 := NB127_126.out
       have hs48 : w45.cell? ⟨gb127, 2, none⟩ = some (.int .i64 0) := (blk_cell BK127.out 2).trans rfl
       have hfs48 := blk_frozen BK127.out 2
       have hns48_0 := NB125_127.out
       have hns48_1 := NB126_127.out
       have hms48_0 := NB127_125.out
       have hms48_1 := NB127_126.out
       refine skip_ (w1 := ?_) (by rfl) rfl ?_ ?_
       rotate_left
       ·go_simp
        rfl
       refine hK.out _ _ ⟨((cell_far (p := ⟨gb127, _, none⟩) NB125_127.out _).trans (((cell_far (p := ⟨gb127, _, none⟩) NB125_127.out _).trans (((cell_far (p := ⟨gb127, _, none⟩) NB125_127.out _).trans (hHeld.1)))))), ((cell_far (p := ⟨gb127, _, none⟩) NB125_127.out _).trans (((cell_far (p := ⟨gb127, _, none⟩) NB125_127.out _).trans (((cell_far (p := ⟨gb127, _, none⟩) NB125_127.out _).trans (hHeld.2.1)))))), ((cell_far (p := ⟨gb127, _, none⟩) NB125_127.out _).trans (((cell_far (p := ⟨gb127, _, none⟩) NB125_127.out _).trans (((cell_far (p := ⟨gb127, _, none⟩) NB125_127.out _).trans (hHeld.2.2.1)))))), ((cell_far (p := ⟨gb127, _, none⟩) NB126_127.out _).trans (((cell_far (p := ⟨gb127, _, none⟩) NB126_127.out _).trans (((cell_far (p := ⟨gb127, _, none⟩) NB126_127.out _).trans (hHeld.2.2.2.1)))))), ((cell_far (p := ⟨gb127, _, none⟩) NB126_127.out _).trans (((cell_far (p := ⟨gb127, _, none⟩) NB126_127.out _).trans (((cell_far (p := ⟨gb127, _, none⟩) NB126_127.out _).trans (hHeld.2.2.2.2.1)))))), ((cell_far (p := ⟨gb127, _, none⟩) NB126_127.out _).trans (((cell_far (p := ⟨gb127, _, none⟩) NB126_127.out _).trans (((cell_far (p := ⟨gb127, _, none⟩) NB126_127.out _).trans (hHeld.2.2.2.2.2))))))⟩ (fun hHeld => ?_)
       clear hK K
       refine pure_ (i := 19) (N := some 5) (v := ?_) (a' := ?_) #[true, true, true, true, true, true, true, true, true, true, true, true, true, true, true, true, true, true, true, true] rfl rfl (any_of HT_.out (by kernel_rfl)) (fun _ _ _ h => h) (Or.inl ⟨by rfl, ?_⟩) ?_ ?_
       rotate_left
       ·intro w'
        go_simp
        with_reducible rfl
       rotate_left
       ·simp only [Act.put, List.setIfInBounds_toArray, List.set_cons_zero, List.set_cons_succ, i64_w, i32_w]
        rfl
       refine done_ (done_of HT_.out (by kernel_rfl)) ?_
       try go_wp2
       refine bodyPost_ret (results_ct rfl _ _ gb127 29 #[.int .i64 t138, .int .i64 t139, .int .i64 t140] (0, 0) _ rfl (kp (p3_2 (kp (p3_1 (kp (p3_0 (kp BK127.out))))))) Tryd.underlying29 rfl (by kernel_rfl)) rfl ?_
       exact ⟨by first | rfl | (simp [errW_none, errW_some] <;> rfl) | (simp [*, errW_none, errW_some] <;> rfl), bl HB.out⟩

/-! ### frac_Div: function 33 -/
def frac_Div.j0 : Nat → Bool → Int → Int → Int → Int → Int → Int → Option (Int × Int × Int × Int)
 | 0, _, _, _, _, _, _, _ => none
 | k + 1, x6, x143000, x143001, x143002, x144000, x144001, x144002 => if x6 = true then (some (0, 0, 0, 1)) else (if x144000 = 0 then (some (0, 0, 0, 11)) else (if x143000 = 0 then (some (x143000, x143001, x143002, 0)) else ((frac_loosen.f k x143000 x143001).bind fun bt147 => ((frac_loosen.f k x144000 x144001).bind fun bt151 => ((frac_loose_turned.f k bt151.1 bt151.2.1 bt151.2.2.1 bt151.2.2.2).bind fun bt155 => ((frac_product.f k bt147.1 bt147.2.1 bt147.2.2.1 bt147.2.2.2 bt155.1 bt155.2.1 bt155.2.2.1 bt155.2.2.2 (wrap64 (x143002 - x144002))).bind fun bt159 => (some (bt159.1, bt159.2.1, bt159.2.2.1, bt159.2.2.2))))))))
def frac_Div.f (k : Nat) (a0_0 : Int) (a0_1 : Int) (a0_2 : Int) (a1_0 : Int) (a1_1 : Int) (a1_2 : Int) : Option (Int × Int × Int × Int) := (frac_Right.f k a0_0 a0_1 a0_2).bind fun t145 => (if t145 = true then ((frac_Right.f k a1_0 a1_1 a1_2).bind fun t146 => (frac_Div.j0 k (!t146) a0_0 a0_1 a0_2 a1_0 a1_1 a1_2)) else (frac_Div.j0 k true a0_0 a0_1 a0_2 a1_0 a1_1 a1_2))
theorem frac_Div.mono_l : ∀ k, (∀ y0 y1 y2 y3 y4 y5 y6, LeO (frac_Div.j0 k y0 y1 y2 y3 y4 y5 y6) (frac_Div.j0 (k + 1) y0 y1 y2 y3 y4 y5 y6))
 | 0 => fun _ _ _ _ _ _ _ r h => by simp [frac_Div.j0] at h
 | k + 1 => by
  have ih0 := frac_Div.mono_l k
  ·intro y0 y1 y2 y3 y4 y5 y6
   unfold frac_Div.j0
   repeat' first
   | (with_reducible exact ih0 _ _ _ _ _ _ _)
   | (with_reducible exact frac_Right.mono _ _ _ _)
   | (with_reducible exact frac_loose_turned.mono _ _ _ _ _)
   | (with_reducible exact frac_loosen.mono _ _ _)
   | (with_reducible exact frac_product.mono _ _ _ _ _ _ _ _ _ _)
   | (with_reducible exact LeO.refl _)
   | (with_reducible exact LeO.none _)
   | (with_reducible refine LeO.ite ?_ ?_)
   | (with_reducible refine LeO.bind ?_ (fun _ => ?_))
   | exact ih0 _ _ _ _ _ _ _
   | exact frac_Right.mono _ _ _ _
   | exact frac_loose_turned.mono _ _ _ _ _
   | exact frac_loosen.mono _ _ _
   | exact frac_product.mono _ _ _ _ _ _ _ _ _ _
   | exact LeO.none _
   | refine LeO.ite ?_ ?_
   | refine LeO.bind ?_ (fun _ => ?_)
theorem frac_Div.mono : ∀ a0 a1 a2 a3 a4 a5 k, LeO (frac_Div.f k a0 a1 a2 a3 a4 a5) (frac_Div.f (k + 1) a0 a1 a2 a3 a4 a5) := by
 intro a0 a1 a2 a3 a4 a5 k
 have ih0 := frac_Div.mono_l k
 unfold frac_Div.f
 repeat' first
   | (with_reducible exact ih0 _ _ _ _ _ _ _)
   | (with_reducible exact frac_Right.mono _ _ _ _)
   | (with_reducible exact frac_loose_turned.mono _ _ _ _ _)
   | (with_reducible exact frac_loosen.mono _ _ _)
   | (with_reducible exact frac_product.mono _ _ _ _ _ _ _ _ _ _)
   | (with_reducible exact LeO.refl _)
   | (with_reducible exact LeO.none _)
   | (with_reducible refine LeO.ite ?_ ?_)
   | (with_reducible refine LeO.bind ?_ (fun _ => ?_))
   | exact ih0 _ _ _ _ _ _ _
   | exact frac_Right.mono _ _ _ _
   | exact frac_loose_turned.mono _ _ _ _ _
   | exact frac_loosen.mono _ _ _
   | exact frac_product.mono _ _ _ _ _ _ _ _ _ _
   | exact LeO.none _
   | refine LeO.ite ?_ ?_
   | refine LeO.bind ?_ (fun _ => ?_)
def frac_Div.T7 : Bool × List (List Nat × List Nat) := (true, [([], []), ([0], [0]), ([], []), ([2], [2]), ([1, 3], [1, 3]), ([], []), ([5], [5]), ([], []), ([7], [7]), ([6, 8, 4], [6, 8]), ([9, 9], [9]), ([], []), ([11], [11]), ([], []), ([13], [13]), ([12, 14], [12, 14]), ([4, 10, 15, 10], [4, 10, 15]), ([16], [16]), ([16], [16]), ([17, 16, 0, 1, 2, 3, 4, 5, 6, 7, 8, 9, 10, 11, 12, 13, 14, 15, 16, 17, 18], [17]), ([18, 19, 0, 1, 2, 3, 4, 5, 6, 7, 8, 9, 10, 11, 12, 13, 14, 15, 16, 17, 18, 19], [18])])
def frac_Div.B7 : List Nat := [0, 1, 0, 4, 15, 0, 32, 0, 128, 511, 1023, 0, 2048, 0, 8192, 30720, 65535, 131071, 131071, 524287, 1048575]
theorem frac_Div.tab7 : rtab .any (opsOf Tryd.f33 7) = frac_Div.T7 := by kernel_rfl
theorem frac_Div.bits7 : waitsOk frac_Div.T7.2 frac_Div.B7 = true := by kernel_rfl
set_option maxHeartbeats 8000000 in
set_option maxRecDepth 100000 in
theorem frac_Div.calls (k : Nat) (a0_0 : Int) (a0_1 : Int) (a0_2 : Int) (a1_0 : Int) (a1_1 : Int) (a1_2 : Int) (r1 : Int) (r2 : Int) (r3 : Int) (r4 : Int) (w : World) (hG : Glob [1] w) (h : frac_Div.f k a0_0 a0_1 a0_2 a1_0 a1_1 a1_2 = some (r1, r2, r3, r4)) :
  Calls Tryd.prog 33 #[.agg #[.int .i64 a0_0, .int .i64 a0_1, .int .i64 a0_2], .agg #[.int .i64 a1_0, .int .i64 a1_1, .int .i64 a1_2]] w fun e w' => e = .returned (.tuple #[.agg #[.int .i64 r1, .int .i64 r2, .int .i64 r3], .int .i64 r4]) ∧ Below w.heap.size w w' := by
 have hu29 := Tryd.underlying29
 have HB := Aside0.mk (Below.refl w.heap.size w)
 have H : ((frac_Right.f k a0_0 a0_1 a0_2).bind fun t145 => (if t145 = true then ((frac_Right.f k a1_0 a1_1 a1_2).bind fun t146 => (frac_Div.j0 k (!t146) a0_0 a0_1 a0_2 a1_0 a1_1 a1_2)) else (frac_Div.j0 k true a0_0 a0_1 a0_2 a1_0 a1_1 a1_2))) = some (r1, r2, r3, r4) := h
 clear h
 have HC3 := Aside0.mk H
 clear H
 go_enter Tryd.func33, Tryd.ntmps33
 go_upto_region 1 with (first | ((with_reducible refine gate_dst (N := 2) rfl ?_); refine box_event ?hg (N := 2) ?hd (cs := #[.int .i64 a0_0, .int .i64 a0_1, .int .i64 a0_2]) (t := 29) ?hr ?_; (case hd => rfl); (case hg => rfl); (case hr => first | (go_simp; done) | (go_simp; rfl)); intro gb142 hg w4 hbox hb; have n0_ := sb HB hb; have n1_ := Aside0.mk (hbox); have n2_ := Aside0.mk ((by rw [hg]; exact (below_size (bl HB.out)) : w.heap.size ≤ gb142)); have n3_ := Aside0.mk ((by rw [hg]; exact (below_size (bl HB.out)) : w.heap.size ≤ gb142)); clear HB; have HB := n0_; have BK142 := n1_; have GW142 := n2_; have GE142 := n3_; clear n0_ n1_ n2_ n3_; clear hb hbox hg) | ((with_reducible refine gate_dst (N := 3) rfl ?_); refine box_event ?hg (N := 3) ?hd (cs := #[.int .i64 a1_0, .int .i64 a1_1, .int .i64 a1_2]) (t := 29) ?hr ?_; (case hd => rfl); (case hg => rfl); (case hr => first | (go_simp; done) | (go_simp; rfl)); intro gb143 hg w5 hbox hb; have n0_ := kb BK142 hb; have n1_ := sb HB hb; have n2_ := Aside0.mk (hbox); have n3_ := Aside0.mk ((by rw [hg]; exact (below_size (bl HB.out)) : w.heap.size ≤ gb143)); have n4_ := Aside0.mk ((by rw [hg]; exact (below_size (bl HB.out)) : w.heap.size ≤ gb143)); have n5_ := Aside0.mk ((by rw [hg]; exact Nat.ne_of_lt (blk_lt (kp BK142.out)) : gb142 ≠ gb143)); have n6_ := Aside0.mk ((by rw [hg]; exact Nat.ne_of_gt (blk_lt (kp BK142.out)) : gb143 ≠ gb142)); clear BK142; clear HB; have BK142 := n0_; have HB := n1_; have BK143 := n2_; have GW143 := n3_; have GE143 := n4_; have NB142_143 := n5_; have NB143_142 := n6_; clear n0_ n1_ n2_ n3_ n4_ n5_ n6_; clear hb hbox hg) | ((with_reducible refine gate_dst (N := 4) rfl ?_); refine box_event ?hg (N := 4) ?hd (cs := #[.int .i64 0, .int .i64 0, .int .i64 0]) (t := 29) ?hr ?_; (case hd => rfl); (case hg => rfl); (case hr => first | (go_simp; done) | (go_simp; rfl)); intro gb144 hg w6 hbox hb; have n0_ := kb BK142 hb; have n1_ := kb BK143 hb; have n2_ := sb HB hb; have n3_ := Aside0.mk (hbox); have n4_ := Aside0.mk ((by rw [hg]; exact (below_size (bl HB.out)) : w.heap.size ≤ gb144)); have n5_ := Aside0.mk ((by rw [hg]; exact (below_size (bl HB.out)) : w.heap.size ≤ gb144)); have n6_ := Aside0.mk ((by rw [hg]; exact Nat.ne_of_lt (blk_lt (kp BK142.out)) : gb142 ≠ gb144)); have n7_ := Aside0.mk ((by rw [hg]; exact Nat.ne_of_gt (blk_lt (kp BK142.out)) : gb144 ≠ gb142)); have n8_ := Aside0.mk ((by rw [hg]; exact Nat.ne_of_lt (blk_lt (kp BK143.out)) : gb143 ≠ gb144)); have n9_ := Aside0.mk ((by rw [hg]; exact Nat.ne_of_gt (blk_lt (kp BK143.out)) : gb144 ≠ gb143)); clear BK142; clear BK143; clear HB; have BK142 := n0_; have BK143 := n1_; have HB := n2_; have BK144 := n3_; have GW144 := n4_; have GE144 := n5_; have NB142_144 := n6_; have NB144_142 := n7_; have NB143_144 := n8_; have NB144_143 := n9_; clear n0_ n1_ n2_ n3_ n4_ n5_ n6_ n7_ n8_ n9_; clear hb hbox hg))
 (try simp only [Act.put, List.setIfInBounds_toArray, List.set_cons_zero, List.set_cons_succ])
 go_cut [6] (fun v6 wc => ∃ (kq : Nat) (x6_2 : Bool), v6 = .bool x6_2 ∧ Aside0 (frac_Div.j0 kq x6_2 a0_0 a0_1 a0_2 a1_0 a1_1 a1_2 = some (r1, r2, r3, r4)) ∧ Aside0 (kq ≤ k) ∧ Aside0 (wc.heap[gb142]? = some (.cells #[.int .i64 a0_0, .int .i64 a0_1, .int .i64 a0_2] 29 (0, 0))) ∧ Aside0 (wc.heap[gb143]? = some (.cells #[.int .i64 a1_0, .int .i64 a1_1, .int .i64 a1_2] 29 (0, 0))) ∧ Aside0 (wc.heap[gb144]? = some (.cells #[.int .i64 0, .int .i64 0, .int .i64 0] 29 (0, 0))) ∧ Aside0 (Below w.heap.size w wc))
 case first =>
  have H := HC3.out
  clear HC3
  replace H := Option.bind_eq_some_iff.mp H
  obtain ⟨t145, A70, H⟩ := H
  replace H : (if t145 = true then ((frac_Right.f k a1_0 a1_1 a1_2).bind fun t146 => (frac_Div.j0 k (!t146) a0_0 a0_1 a0_2 a1_0 a1_1 a1_2)) else (frac_Div.j0 k true a0_0 a0_1 a0_2 a1_0 a1_1 a1_2)) = some (r1, r2, r3, r4) := H
  have A7 := Aside0.mk A70
  clear A70
  by_cases c8 : t145 = true
  ·subst c8
   have H1 : ((frac_Right.f k a1_0 a1_1 a1_2).bind fun t146 => (frac_Div.j0 k (!t146) a0_0 a0_1 a0_2 a1_0 a1_1 a1_2)) = some (r1, r2, r3, r4) := by rw [if_pos rfl] at H; exact H
   clear H
   have H := H1
   clear H1
   replace H := Option.bind_eq_some_iff.mp H
   obtain ⟨t146, A90, H⟩ := H
   replace H : (frac_Div.j0 k (!t146) a0_0 a0_1 a0_2 a1_0 a1_1 a1_2) = some (r1, r2, r3, r4) := H
   have A9 := Aside0.mk A90
   clear A90
   have H' := Aside0.mk H
   clear H
   have hnb10 := NB142_143.out
   have hnc10 := NB143_142.out
   have hnb11 := NB142_144.out
   have hnc11 := NB144_142.out
   obtain ⟨hcz12_0, hcz12_1, hcz12_2⟩ := hc3 BK142.out
   obtain ⟨hfz12_0, hfz12_1, hfz12_2⟩ := hf3 BK142.out
   go_wp2_with (first | (go_at_call 47; (with_reducible refine (frac_Right.calls k a0_0 a0_1 a0_2 true _ A7.out).mono ?_); rintro e w13 ⟨rfl, hb⟩; replace BK142 := kb BK142 hb; replace BK143 := kb BK143 hb; replace BK144 := kb BK144 hb; replace HB := sb HB hb; (try clear hb); (try clear hb2); (try clear hk); (try clear hi); have hnb14 := NB143_144.out; have hnc14 := NB144_143.out; obtain ⟨hcz15_0, hcz15_1, hcz15_2⟩ := hc3 BK143.out; obtain ⟨hfz15_0, hfz15_1, hfz15_2⟩ := hf3 BK143.out) | (go_at_call 47; (with_reducible refine (frac_Right.calls k a1_0 a1_1 a1_2 t146 _ A9.out).mono ?_); rintro e w16 ⟨rfl, hb⟩; replace BK142 := kb BK142 hb; replace BK143 := kb BK143 hb; replace BK144 := kb BK144 hb; replace HB := sb HB hb; (try clear hb); (try clear hb2); (try clear hk); (try clear hi)))
   go_meet
   case rel => exact ⟨_, (!t146), (by first | rfl | (simp; done) | (simp [*]; done)), H', ⟨by first | omega | exact Nat.le_refl _⟩, ⟨kp BK142.out⟩, ⟨kp BK143.out⟩, ⟨kp BK144.out⟩, ⟨bl HB.out⟩⟩
  ·replace c8 := Bool.eq_false_iff.mpr c8
   subst c8
   have H1 : (frac_Div.j0 k true a0_0 a0_1 a0_2 a1_0 a1_1 a1_2) = some (r1, r2, r3, r4) := by rw [if_neg (show ¬ (false = true) by decide)] at H; exact H
   clear H
   have H := H1
   clear H1
   have H' := Aside0.mk H
   clear H
   have hnb17 := NB142_143.out
   have hnc17 := NB143_142.out
   have hnb18 := NB142_144.out
   have hnc18 := NB144_142.out
   obtain ⟨hcz19_0, hcz19_1, hcz19_2⟩ := hc3 BK142.out
   obtain ⟨hfz19_0, hfz19_1, hfz19_2⟩ := hf3 BK142.out
   go_wp2_with (first | (go_at_call 47; (with_reducible refine (frac_Right.calls k a0_0 a0_1 a0_2 false _ A7.out).mono ?_); rintro e w20 ⟨rfl, hb⟩; replace BK142 := kb BK142 hb; replace BK143 := kb BK143 hb; replace BK144 := kb BK144 hb; replace HB := sb HB hb; (try clear hb); (try clear hb2); (try clear hk); (try clear hi)))
   go_meet
   case rel => exact ⟨_, (true), (by first | rfl | (simp; done) | (simp [*]; done)), H', ⟨by first | omega | exact Nat.le_refl _⟩, ⟨kp BK142.out⟩, ⟨kp BK143.out⟩, ⟨kp BK144.out⟩, ⟨bl HB.out⟩⟩
 case rest =>
  clear HC3
  try clear c1
  try clear p2
  try clear c3
  try clear c4
  try clear c8
  try clear c10
  try clear c11
  try clear c14
  try clear c17
  try clear c18
  try clear hcz12_0 hcz12_1 hcz12_2
  try clear hcz15_0 hcz15_1 hcz15_2
  try clear hcz19_0 hcz19_1 hcz19_2
  try clear hfz12_0 hfz12_1 hfz12_2
  try clear hfz15_0 hfz15_1 hfz15_2
  try clear hfz19_0 hfz19_1 hfz19_2
  obtain ⟨kq, x6_2, rfl, HA, HJ2, BK142, BK143, BK144, HB⟩ := hcut
  cases kq with
  | zero => exact absurd HA.out (by simp [frac_Div.j0])
  | succ kj2 =>
   have H := HA.out
   clear HA
   simp only [frac_Div.j0] at H
   by_cases c21 : x6_2 = true
   ·subst c21
    have H1 : (some (0, 0, 0, 1)) = some (r1, r2, r3, r4) := by rw [if_pos rfl] at H; exact H
    clear H
    have H := H1
    clear H1
    simp only [Option.some.injEq, Prod.mk.injEq] at H
    obtain ⟨rfl, rfl, rfl, rfl⟩ := H
    have hnb22 := NB144_142.out
    have hnc22 := NB142_144.out
    have hnb23 := NB144_143.out
    have hnc23 := NB143_144.out
    obtain ⟨hcz24_0, hcz24_1, hcz24_2⟩ := hc3 BK144.out
    obtain ⟨hfz24_0, hfz24_1, hfz24_2⟩ := hf3 BK144.out
    go_wp2
    refine bodyPost_ret (results_ct rfl _ _ gb144 29 #[.int .i64 0, .int .i64 0, .int .i64 0] (0, 0) _ rfl (kp (p3_2 (kp (p3_1 (kp (p3_0 (kp BK144.out))))))) Tryd.underlying29 rfl (by kernel_rfl)) rfl ?_
    exact ⟨by first | rfl | (simp [errW_none, errW_some] <;> rfl) | (simp [*, errW_none, errW_some] <;> rfl), bl HB.out⟩
   ·replace c21 := Bool.eq_false_iff.mpr c21
    subst c21
    have H1 : (if a1_0 = 0 then (some (0, 0, 0, 11)) else (if a0_0 = 0 then (some (a0_0, a0_1, a0_2, 0)) else ((frac_loosen.f kj2 a0_0 a0_1).bind fun bt147 => ((frac_loosen.f kj2 a1_0 a1_1).bind fun bt151 => ((frac_loose_turned.f kj2 bt151.1 bt151.2.1 bt151.2.2.1 bt151.2.2.2).bind fun bt155 => ((frac_product.f kj2 bt147.1 bt147.2.1 bt147.2.2.1 bt147.2.2.2 bt155.1 bt155.2.1 bt155.2.2.1 bt155.2.2.2 (wrap64 (a0_2 - a1_2))).bind fun bt159 => (some (bt159.1, bt159.2.1, bt159.2.2.1, bt159.2.2.2)))))))) = some (r1, r2, r3, r4) := by rw [if_neg (show ¬ (false = true) by decide)] at H; exact H
    clear H
    have H := H1
    clear H1
    by_cases c25 : a1_0 = 0
    ·rw [if_pos c25] at H
     have c25b0 : (a1_0 == 0) = true := beq_iff_eq.mpr c25
     have c25b1 : (a1_0 != 0) = false := bne_eq_false_iff_eq.mpr c25
     clear c25
     simp only [Option.some.injEq, Prod.mk.injEq] at H
     obtain ⟨rfl, rfl, rfl, rfl⟩ := H
     have hnb26 := NB143_142.out
     have hnc26 := NB142_143.out
     have hnb27 := NB143_144.out
     have hnc27 := NB144_143.out
     obtain ⟨hcz28_0, hcz28_1, hcz28_2⟩ := hc3 BK143.out
     obtain ⟨hfz28_0, hfz28_1, hfz28_2⟩ := hf3 BK143.out
     have hnb29 := NB144_142.out
     have hnc29 := NB142_144.out
     obtain ⟨hcz30_0, hcz30_1, hcz30_2⟩ := hc3 BK144.out
     obtain ⟨hfz30_0, hfz30_1, hfz30_2⟩ := hf3 BK144.out
     go_wp2
     refine bodyPost_ret (results_ct rfl _ _ gb144 29 #[.int .i64 0, .int .i64 0, .int .i64 0] (0, 0) _ rfl (kp (p3_2 (kp (p3_1 (kp (p3_0 (kp BK144.out))))))) Tryd.underlying29 rfl (by kernel_rfl)) rfl ?_
     exact ⟨by first | rfl | (simp [errW_none, errW_some] <;> rfl) | (simp [*, errW_none, errW_some] <;> rfl), bl HB.out⟩
    ·rw [if_neg c25] at H
     have c25b0 : (a1_0 == 0) = false := beq_eq_false_iff_ne.mpr c25
     have c25b1 : (a1_0 != 0) = true := bne_iff_ne.mpr c25
     by_cases c31 : a0_0 = 0
     ·rw [if_pos c31] at H
      have c31b0 : (a0_0 == 0) = true := beq_iff_eq.mpr c31
      have c31b1 : (a0_0 != 0) = false := bne_eq_false_iff_eq.mpr c31
      clear c31
      simp only [Option.some.injEq, Prod.mk.injEq] at H
      obtain ⟨rfl, rfl, rfl, rfl⟩ := H
      have hnb32 := NB143_142.out
      have hnc32 := NB142_143.out
      have hnb33 := NB143_144.out
      have hnc33 := NB144_143.out
      obtain ⟨hcz34_0, hcz34_1, hcz34_2⟩ := hc3 BK143.out
      obtain ⟨hfz34_0, hfz34_1, hfz34_2⟩ := hf3 BK143.out
      have hnb35 := NB142_144.out
      have hnc35 := NB144_142.out
      obtain ⟨hcz36_0, hcz36_1, hcz36_2⟩ := hc3 BK142.out
      obtain ⟨hfz36_0, hfz36_1, hfz36_2⟩ := hf3 BK142.out
      obtain ⟨hcz37_0, hcz37_1, hcz37_2⟩ := hc3 BK144.out
      obtain ⟨hfz37_0, hfz37_1, hfz37_2⟩ := hf3 BK144.out
      go_wp2
      refine bodyPost_ret (results_ct rfl _ _ gb144 29 #[.int .i64 a0_0, .int .i64 a0_1, .int .i64 a0_2] (0, 0) _ rfl (kp (p3_2 (kp (p3_1 (kp (p3_0 (kp BK144.out))))))) Tryd.underlying29 rfl (by kernel_rfl)) rfl ?_
      exact ⟨by first | rfl | (simp [errW_none, errW_some] <;> rfl) | (simp [*, errW_none, errW_some] <;> rfl), bl HB.out⟩
     ·rw [if_neg c31] at H
      have c31b0 : (a0_0 == 0) = false := beq_eq_false_iff_ne.mpr c31
      have c31b1 : (a0_0 != 0) = true := bne_iff_ne.mpr c31
      replace H := Option.bind_eq_some_iff.mp H
      obtain ⟨⟨t147, t148, t149, t150⟩, A380, H⟩ := H
      replace H : ((frac_loosen.f kj2 a1_0 a1_1).bind fun bt151 => ((frac_loose_turned.f kj2 bt151.1 bt151.2.1 bt151.2.2.1 bt151.2.2.2).bind fun bt155 => ((frac_product.f kj2 t147 t148 t149 t150 bt155.1 bt155.2.1 bt155.2.2.1 bt155.2.2.2 (wrap64 (a0_2 - a1_2))).bind fun bt159 => (some (bt159.1, bt159.2.1, bt159.2.2.1, bt159.2.2.2))))) = some (r1, r2, r3, r4) := H
      have A38 := Aside0.mk A380
      clear A380
      replace H := Option.bind_eq_some_iff.mp H
      obtain ⟨⟨t151, t152, t153, t154⟩, A390, H⟩ := H
      replace H : ((frac_loose_turned.f kj2 t151 t152 t153 t154).bind fun bt155 => ((frac_product.f kj2 t147 t148 t149 t150 bt155.1 bt155.2.1 bt155.2.2.1 bt155.2.2.2 (wrap64 (a0_2 - a1_2))).bind fun bt159 => (some (bt159.1, bt159.2.1, bt159.2.2.1, bt159.2.2.2)))) = some (r1, r2, r3, r4) := H
      have A39 := Aside0.mk A390
      clear A390
      replace H := Option.bind_eq_some_iff.mp H
      obtain ⟨⟨t155, t156, t157, t158⟩, A400, H⟩ := H
      replace H : ((frac_product.f kj2 t147 t148 t149 t150 t155 t156 t157 t158 (wrap64 (a0_2 - a1_2))).bind fun bt159 => (some (bt159.1, bt159.2.1, bt159.2.2.1, bt159.2.2.2))) = some (r1, r2, r3, r4) := H
      have A40 := Aside0.mk A400
      clear A400
      replace H := Option.bind_eq_some_iff.mp H
      obtain ⟨⟨t159, t160, t161, t162⟩, A410, H⟩ := H
      replace H : (some (t159, t160, t161, t162)) = some (r1, r2, r3, r4) := H
      have A41 := Aside0.mk A410
      clear A410
      simp only [Option.some.injEq, Prod.mk.injEq] at H
      obtain ⟨rfl, rfl, rfl, rfl⟩ := H
      have hnb42 := NB143_142.out
      have hnc42 := NB142_143.out
      have hnb43 := NB143_144.out
      have hnc43 := NB144_143.out
      obtain ⟨hcz44_0, hcz44_1, hcz44_2⟩ := hc3 BK143.out
      obtain ⟨hfz44_0, hfz44_1, hfz44_2⟩ := hf3 BK143.out
      have hnb45 := NB142_144.out
      have hnc45 := NB144_142.out
      obtain ⟨hcz46_0, hcz46_1, hcz46_2⟩ := hc3 BK142.out
      obtain ⟨hfz46_0, hfz46_1, hfz46_2⟩ := hf3 BK142.out
      try go_wp2
      (try (rw [drewN_self wc]; generalize hq_ : World.drewN wc _ = wc; replace BK142 := Aside0.mk (kq hq_ BK142.out); replace BK143 := Aside0.mk (kq hq_ BK143.out); replace BK144 := Aside0.mk (kq hq_ BK144.out); replace HB := Aside0.mk (bq hq_ HB.out); clear hq_))
      replace BK142 := Aside0.mk (blk_drew BK142.out)
      replace BK143 := Aside0.mk (blk_drew BK143.out)
      replace BK144 := Aside0.mk (blk_drew BK144.out)
      replace HB := Aside0.mk (below_drew1 HB.out)
      refine start_ (n := 21) (S := fun w' => w'.cell? ⟨gb142, 0, none⟩ = some (.int .i64 a0_0) ∧ w'.cell? ⟨gb142, 1, none⟩ = some (.int .i64 a0_1) ∧ w'.cell? ⟨gb142, 2, none⟩ = some (.int .i64 a0_2) ∧ w'.cell? ⟨gb143, 0, none⟩ = some (.int .i64 a1_0) ∧ w'.cell? ⟨gb143, 1, none⟩ = some (.int .i64 a1_1) ∧ w'.cell? ⟨gb143, 2, none⟩ = some (.int .i64 a1_2)) (ds := []) #[false, false, false, false, false, false, false, false, false, false, false, false, false, false, false, false, false, false, false, false, false] (by kernel_rfl) rfl rfl ⟨(blk_cell BK142.out 0).trans rfl, (blk_cell BK142.out 1).trans rfl, (blk_cell BK142.out 2).trans rfl, (blk_cell BK143.out 0).trans rfl, (blk_cell BK143.out 1).trans rfl, (blk_cell BK143.out 2).trans rfl⟩ (fun hHeld => ?_); refine with_tabW frac_Div.tab7 frac_Div.bits7 (fun HT_ HW_ => ?_)
      generalize wc.drew = w47 at BK142 BK143 BK144 HB hHeld ⊢
      refine pure_ (i := 0) (N := some 26) (v := ?_) (a' := ?_) #[true, false, false, false, false, false, false, false, false, false, false, false, false, false, false, false, false, false, false, false, false] rfl rfl (any_of HT_.out (by kernel_rfl)) (fun _ _ _ h => h) (Or.inl ⟨by rfl, ?_⟩) ?_ ?_
      rotate_left
      ·intro w'
       go_simp
       with_reducible rfl
      rotate_left
      ·simp only [Act.put, List.setIfInBounds_toArray, List.set_cons_zero, List.set_cons_succ, i64_w, i32_w]
       rfl
      refine pure_ (i := 2) (N := some 28) (v := ?_) (a' := ?_) #[true, false, true, false, false, false, false, false, false, false, false, false, false, false, false, false, false, false, false, false, false] rfl rfl (any_of HT_.out (by kernel_rfl)) (fun _ _ _ h => h) (Or.inl ⟨by rfl, ?_⟩) ?_ ?_
      rotate_left
      ·intro w'
       go_simp
       with_reducible rfl
      rotate_left
      ·simp only [Act.put, List.setIfInBounds_toArray, List.set_cons_zero, List.set_cons_succ, i64_w, i32_w]
       rfl
      refine pure_ (i := 5) (N := some 31) (v := ?_) (a' := ?_) #[true, false, true, false, false, true, false, false, false, false, false, false, false, false, false, false, false, false, false, false, false] rfl rfl (any_of HT_.out (by kernel_rfl)) (fun _ _ _ h => h) (Or.inl ⟨by rfl, ?_⟩) ?_ ?_
      rotate_left
      ·intro w'
       go_simp
       with_reducible rfl
      rotate_left
      ·simp only [Act.put, List.setIfInBounds_toArray, List.set_cons_zero, List.set_cons_succ, i64_w, i32_w]
       rfl
      refine pure_ (i := 7) (N := some 33) (v := ?_) (a' := ?_) #[true, false, true, false, false, true, false, true, false, false, false, false, false, false, false, false, false, false, false, false, false] rfl rfl (any_of HT_.out (by kernel_rfl)) (fun _ _ _ h => h) (Or.inl ⟨by rfl, ?_⟩) ?_ ?_
      rotate_left
      ·intro w'
       go_simp
       with_reducible rfl
      rotate_left
      ·simp only [Act.put, List.setIfInBounds_toArray, List.set_cons_zero, List.set_cons_succ, i64_w, i32_w]
       rfl
      refine pure_ (i := 11) (N := some 37) (v := ?_) (a' := ?_) #[true, false, true, false, false, true, false, true, false, false, false, true, false, false, false, false, false, false, false, false, false] rfl rfl (any_of HT_.out (by kernel_rfl)) (fun _ _ _ h => h) (Or.inl ⟨by rfl, ?_⟩) ?_ ?_
      rotate_left
      ·intro w'
       go_simp
       with_reducible rfl
      rotate_left
      ·simp only [Act.put, List.setIfInBounds_toArray, List.set_cons_zero, List.set_cons_succ, i64_w, i32_w]
       rfl
      refine pure_ (i := 13) (N := some 39) (v := ?_) (a' := ?_) #[true, false, true, false, false, true, false, true, false, false, false, true, false, true, false, false, false, false, false, false, false] rfl rfl (any_of HT_.out (by kernel_rfl)) (fun _ _ _ h => h) (Or.inl ⟨by rfl, ?_⟩) ?_ ?_
      rotate_left
      ·intro w'
       go_simp
       with_reducible rfl
      rotate_left
      ·simp only [Act.put, List.setIfInBounds_toArray, List.set_cons_zero, List.set_cons_succ, i64_w, i32_w]
       rfl
      refine take_ (i := 1) (N := some 27) (v := ?_) (a' := ?_) #[true, true, true, false, false, true, false, true, false, false, false, true, false, true, false, false, false, false, false, false, false] rfl rfl (take_ofW HT_.out HW_.out (by kernel_rfl)) (fun _ _ _ h => h) (Or.inl ⟨by rfl, ?_⟩) hHeld ?_ ?_
      rotate_left
      ·rintro w' ⟨s0, s1, s2, s3, s4, s5⟩
       go_simp
       with_reducible rfl
      rotate_left
      ·simp only [Act.put, List.setIfInBounds_toArray, List.set_cons_zero, List.set_cons_succ, i64_w, i32_w]
       rfl
      refine take_ (i := 3) (N := some 29) (v := ?_) (a' := ?_) #[true, true, true, true, false, true, false, true, false, false, false, true, false, true, false, false, false, false, false, false, false] rfl rfl (take_ofW HT_.out HW_.out (by kernel_rfl)) (fun _ _ _ h => h) (Or.inl ⟨by rfl, ?_⟩) hHeld ?_ ?_
      rotate_left
      ·rintro w' ⟨s0, s1, s2, s3, s4, s5⟩
       go_simp
       with_reducible rfl
      rotate_left
      ·simp only [Act.put, List.setIfInBounds_toArray, List.set_cons_zero, List.set_cons_succ, i64_w, i32_w]
       rfl
      refine take_ (i := 6) (N := some 32) (v := ?_) (a' := ?_) #[true, true, true, true, false, true, true, true, false, false, false, true, false, true, false, false, false, false, false, false, false] rfl rfl (take_ofW HT_.out HW_.out (by kernel_rfl)) (fun _ _ _ h => h) (Or.inl ⟨by rfl, ?_⟩) hHeld ?_ ?_
      rotate_left
      ·rintro w' ⟨s0, s1, s2, s3, s4, s5⟩
       go_simp
       with_reducible rfl
      rotate_left
      ·simp only [Act.put, List.setIfInBounds_toArray, List.set_cons_zero, List.set_cons_succ, i64_w, i32_w]
       rfl
      refine take_ (i := 8) (N := some 34) (v := ?_) (a' := ?_) #[true, true, true, true, false, true, true, true, true, false, false, true, false, true, false, false, false, false, false, false, false] rfl rfl (take_ofW HT_.out HW_.out (by kernel_rfl)) (fun _ _ _ h => h) (Or.inl ⟨by rfl, ?_⟩) hHeld ?_ ?_
      rotate_left
      ·rintro w' ⟨s0, s1, s2, s3, s4, s5⟩
       go_simp
       with_reducible rfl
      rotate_left
      ·simp only [Act.put, List.setIfInBounds_toArray, List.set_cons_zero, List.set_cons_succ, i64_w, i32_w]
       rfl
      refine take_ (i := 12) (N := some 38) (v := ?_) (a' := ?_) #[true, true, true, true, false, true, true, true, true, false, false, true, true, true, false, false, false, false, false, false, false] rfl rfl (take_ofW HT_.out HW_.out (by kernel_rfl)) (fun _ _ _ h => h) (Or.inl ⟨by rfl, ?_⟩) hHeld ?_ ?_
      rotate_left
      ·rintro w' ⟨s0, s1, s2, s3, s4, s5⟩
       go_simp
       with_reducible rfl
      rotate_left
      ·simp only [Act.put, List.setIfInBounds_toArray, List.set_cons_zero, List.set_cons_succ, i64_w, i32_w]
       rfl
      refine take_ (i := 14) (N := some 40) (v := ?_) (a' := ?_) #[true, true, true, true, false, true, true, true, true, false, false, true, true, true, true, false, false, false, false, false, false] rfl rfl (take_ofW HT_.out HW_.out (by kernel_rfl)) (fun _ _ _ h => h) (Or.inl ⟨by rfl, ?_⟩) hHeld ?_ ?_
      rotate_left
      ·rintro w' ⟨s0, s1, s2, s3, s4, s5⟩
       go_simp
       with_reducible rfl
      rotate_left
      ·simp only [Act.put, List.setIfInBounds_toArray, List.set_cons_zero, List.set_cons_succ, i64_w, i32_w]
       rfl
      refine pure_ (i := 15) (N := some 41) (v := ?_) (a' := ?_) #[true, true, true, true, false, true, true, true, true, false, false, true, true, true, true, true, false, false, false, false, false] rfl rfl (any_of HT_.out (by kernel_rfl)) (fun _ _ _ h => h) (Or.inl ⟨by rfl, ?_⟩) ?_ ?_
      rotate_left
      ·intro w'
       go_simp
       with_reducible rfl
      rotate_left
      ·simp only [Act.put, List.setIfInBounds_toArray, List.set_cons_zero, List.set_cons_succ, i64_w, i32_w]
       rfl
      refine one_ (i := 4) (N := some 30) #[true, true, true, true, true, true, true, true, true, false, false, true, true, true, true, true, false, false, false, false, false] rfl rfl (one_of HT_.out (by kernel_rfl)) (by decide) (fun K hK => ?_)
      refine goes_ Tryd.func60 (by kernel_rfl) rfl #[.int .i64 a0_0, .int .i64 a0_1] (by rfl) rfl rfl (by (try simp only [List.map_toArray, List.map_cons, List.map_nil]); first | done | rfl | (simp only [List.length_drop, List.length_take]; rfl)) ?_
      with_reducible refine (frac_loosen.calls kj2 a0_0 a0_1 t147 t148 t149 t150 _ (Glob.use hG (by decide) (by repeat (first | (with_reducible first | exact HB.out | exact Below.refl _ _ | apply below_alloc | apply pw_below_drewN | apply below_drew1) | exact HB.out | exact Below.refl _ _))) A38.out).mono ?_
      rintro e w48 ⟨rfl, hb⟩
      refine ⟨_, rfl, ?_⟩
      replace BK142 := kb BK142 hb
      replace BK143 := kb BK143 hb
      replace BK144 := kb BK144 hb
      replace HB := sb HB hb
      (try clear hb)
      (try clear hb2)
      (try clear hk)
      (try clear hi)
      refine hK.out _ _ ⟨(blk_cell BK142.out 0).trans rfl, (blk_cell BK142.out 1).trans rfl, (blk_cell BK142.out 2).trans rfl, (blk_cell BK143.out 0).trans rfl, (blk_cell BK143.out 1).trans rfl, (blk_cell BK143.out 2).trans rfl⟩ (fun hHeld => ?_)
      clear hK K
      refine norm_ (a' := ?_) ?_ ?_
      rotate_left
      ·show Act.put _ (some 30) _ = _
       simp only [Act.put, List.setIfInBounds_toArray, List.set_cons_zero, List.set_cons_succ, i64_w, i32_w]
       rfl
      refine one_ (i := 9) (N := some 35) #[true, true, true, true, true, true, true, true, true, true, false, true, true, true, true, true, false, false, false, false, false] rfl rfl (one_of HT_.out (by kernel_rfl)) (by decide) (fun K hK => ?_)
      refine goes_ Tryd.func60 (by kernel_rfl) rfl #[.int .i64 a1_0, .int .i64 a1_1] (by rfl) rfl rfl (by (try simp only [List.map_toArray, List.map_cons, List.map_nil]); first | done | rfl | (simp only [List.length_drop, List.length_take]; rfl)) ?_
      with_reducible refine (frac_loosen.calls kj2 a1_0 a1_1 t151 t152 t153 t154 _ (Glob.use hG (by decide) (by repeat (first | (with_reducible first | exact HB.out | exact Below.refl _ _ | apply below_alloc | apply pw_below_drewN | apply below_drew1) | exact HB.out | exact Below.refl _ _))) A39.out).mono ?_
      rintro e w49 ⟨rfl, hb⟩
      refine ⟨_, rfl, ?_⟩
      replace BK142 := kb BK142 hb
      replace BK143 := kb BK143 hb
      replace BK144 := kb BK144 hb
      replace HB := sb HB hb
      (try clear hb)
      (try clear hb2)
      (try clear hk)
      (try clear hi)
      refine hK.out _ _ ⟨(blk_cell BK142.out 0).trans rfl, (blk_cell BK142.out 1).trans rfl, (blk_cell BK142.out 2).trans rfl, (blk_cell BK143.out 0).trans rfl, (blk_cell BK143.out 1).trans rfl, (blk_cell BK143.out 2).trans rfl⟩ (fun hHeld => ?_)
      clear hK K
      refine norm_ (a' := ?_) ?_ ?_
      rotate_left
      ·show Act.put _ (some 35) _ = _
       simp only [Act.put, List.setIfInBounds_toArray, List.set_cons_zero, List.set_cons_succ, i64_w, i32_w]
       rfl
      refine one_ (i := 10) (N := some 36) #[true, true, true, true, true, true, true, true, true, true, true, true, true, true, true, true, false, false, false, false, false] rfl rfl (one_of HT_.out (by kernel_rfl)) (by decide) (fun K hK => ?_)
      refine goes_ Tryd.func63 (by kernel_rfl) rfl #[.agg #[.int .i64 t151, .int .i64 t152, .int .i64 t153, .int .i64 t154]] (by rfl) rfl rfl (by (try simp only [List.map_toArray, List.map_cons, List.map_nil]); first | done | rfl | (simp only [List.length_drop, List.length_take]; rfl)) ?_
      with_reducible refine (frac_loose_turned.calls kj2 t151 t152 t153 t154 t155 t156 t157 t158 _ A40.out).mono ?_
      rintro e w50 ⟨rfl, hb⟩
      refine ⟨_, rfl, ?_⟩
      replace BK142 := kb BK142 hb
      replace BK143 := kb BK143 hb
      replace BK144 := kb BK144 hb
      replace HB := sb HB hb
      (try clear hb)
      (try clear hb2)
      (try clear hk)
      (try clear hi)
      refine hK.out _ _ ⟨(blk_cell BK142.out 0).trans rfl, (blk_cell BK142.out 1).trans rfl, (blk_cell BK142.out 2).trans rfl, (blk_cell BK143.out 0).trans rfl, (blk_cell BK143.out 1).trans rfl, (blk_cell BK143.out 2).trans rfl⟩ (fun hHeld => ?_)
      clear hK K
      refine norm_ (a' := ?_) ?_ ?_
      rotate_left
      ·show Act.put _ (some 36) _ = _
       simp only [Act.put, List.setIfInBounds_toArray, List.set_cons_zero, List.set_cons_succ, i64_w, i32_w]
       rfl
      refine one_ (i := 16) (N := some 42) #[true, true, true, true, true, true, true, true, true, true, true, true, true, true, true, true, true, false, false, false, false] rfl rfl (one_of HT_.out (by kernel_rfl)) (by decide) (fun K hK => ?_)
      refine goes_ Tryd.func59 (by kernel_rfl) rfl #[.agg #[.int .i64 t147, .int .i64 t148, .int .i64 t149, .int .i64 t150], .agg #[.int .i64 t155, .int .i64 t156, .int .i64 t157, .int .i64 t158], .int .i64 (wrap64 (a0_2 - a1_2))] (by rfl) rfl rfl (by (try simp only [List.map_toArray, List.map_cons, List.map_nil]); first | done | rfl | (simp only [List.length_drop, List.length_take]; rfl)) ?_
      with_reducible refine (frac_product.calls kj2 t147 t148 t149 t150 t155 t156 t157 t158 (wrap64 (a0_2 - a1_2)) t159 t160 t161 t162 _ (Glob.use hG (by decide) (by repeat (first | (with_reducible first | exact HB.out | exact Below.refl _ _ | apply below_alloc | apply pw_below_drewN | apply below_drew1) | exact HB.out | exact Below.refl _ _))) A41.out).mono ?_
      rintro e w51 ⟨rfl, hb⟩
      refine ⟨_, rfl, ?_⟩
      replace BK142 := kb BK142 hb
      replace BK143 := kb BK143 hb
      replace BK144 := kb BK144 hb
      replace HB := sb HB hb
      (try clear hb)
      (try clear hb2)
      (try clear hk)
      (try clear hi)
      refine hK.out _ _ ⟨(blk_cell BK142.out 0).trans rfl, (blk_cell BK142.out 1).trans rfl, (blk_cell BK142.out 2).trans rfl, (blk_cell BK143.out 0).trans rfl, (blk_cell BK143.out 1).trans rfl, (blk_cell BK143.out 2).trans rfl⟩ (fun hHeld => ?_)
      clear hK K
      refine norm_ (a' := ?_) ?_ ?_
      rotate_left
      ·show Act.put _ (some 42) _ = _
       simp only [Act.put, List.setIfInBounds_toArray, List.set_cons_zero, List.set_cons_succ, i64_w, i32_w]
       rfl
      refine pure_ (i := 17) (N := some 43) (v := ?_) (a' := ?_) #[true, true, true, true, true, true, true, true, true, true, true, true, true, true, true, true, true, true, false, false, false] rfl rfl (any_of HT_.out (by kernel_rfl)) (fun _ _ _ h => h) (Or.inl ⟨by rfl, ?_⟩) ?_ ?_
      rotate_left
      ·intro w'
       go_simp
       with_reducible rfl
      rotate_left
      ·simp only [Act.put, List.setIfInBounds_toArray, List.set_cons_zero, List.set_cons_succ, i64_w, i32_w]
       rfl
      refine pure_ (i := 18) (N := some 44) (v := ?_) (a' := ?_) #[true, true, true, true, true, true, true, true, true, true, true, true, true, true, true, true, true, true, true, false, false] rfl rfl (any_of HT_.out (by kernel_rfl)) (fun _ _ _ h => h) (Or.inl ⟨by rfl, ?_⟩) ?_ ?_
      rotate_left
      ·intro w'
       go_simp
       with_reducible rfl
      rotate_left
      ·simp only [Act.put, List.setIfInBounds_toArray, List.set_cons_zero, List.set_cons_succ, i64_w, i32_w]
       rfl
      refine one_ (i := 19) (N := none) #[true, true, true, true, true, true, true, true, true, true, true, true, true, true, true, true, true, true, true, true, false] rfl rfl (one_of HT_.out (by kernel_rfl)) (by decide) (fun K hK => ?_)
      have hs52 : w51.cell? ⟨gb144, 0, none⟩ = some (.int .i64 0) := (blk_cell BK144.out 0).trans rfl
      have hfs52 := blk_frozen BK144.out 0
      have hns52_0 := NB142_144.out
      have hns52_1 := NB143_144.out
      have hms52_0 := NB144_142.out
      have hms52_1 := NB144_143.out
      have hs53 : w51.cell? ⟨gb144, 1, none⟩ = some (.int .i64 0) := (blk_cell BK144.out 1).trans rfl
      have hfs53 := blk_frozen BK144.out 1
      have hns53_0 := NB142_144.out
      have hns53_1 := NB143_144.out
      have hms53_0 := NB144_142.out
      have hms53_1 := NB144_143.out
      have hs54 : w51.cell? ⟨gb144, 2, none⟩ = some (.int .i64 0) := (blk_cell BK144.out 2).trans rfl
      have hfs54 := blk_frozen BK144.out 2
      have hns54_0 := NB142_144.out
      have hns54_1 := NB143_144.out
      have hms54_0 := NB144_142.out
      have hms54_1 := NB144_143.out
      refine skip_ (w1 := ?_) (by rfl) rfl ?_ ?_
      rotate_left
      ·go_simp
       rfl
      refine hK.out _ _ ⟨((cell_far (p := ⟨gb144, _, none⟩) NB142_144.out _).trans (((cell_far (p := ⟨gb144, _, none⟩) NB142_144.out _).trans (((cell_far (p := ⟨gb144, _, none⟩) NB142_144.out _).trans (hHeld.1)))))), ((cell_far (p := ⟨gb144, _, none⟩) NB142_144.out _).trans (((cell_far (p := ⟨gb144, _, none⟩) NB142_144.out _).trans (((cell_far (p := ⟨gb144, _, none⟩) NB142_144.out _).trans (hHeld.2.1)))))), ((cell_far (p := ⟨gb144, _, none⟩) NB142_144.out _).trans (((cell_far (p := ⟨gb144, _, none⟩) NB142_144.out _).trans (((cell_far (p := ⟨gb144, _, none⟩) NB142_144.out _).trans (hHeld.2.2.1)))))), ((cell_far (p := ⟨gb144, _, none⟩) NB143_144.out _).trans (((cell_far (p := ⟨gb144, _, none⟩) NB143_144.out _).trans (((cell_far (p := ⟨gb144, _, none⟩) NB143_144.out _).trans (hHeld.2.2.2.1)))))), ((cell_far (p := ⟨gb144, _, none⟩) NB143_144.out _).trans (((cell_far (p := ⟨gb144, _, none⟩) NB143_144.out _).trans (((cell_far (p := ⟨gb144, _, none⟩) NB143_144.out _).trans (hHeld.2.2.2.2.1)))))), ((cell_far (p := ⟨gb144, _, none⟩) NB143_144.out _).trans (((cell_far (p := ⟨gb144, _, none⟩) NB143_144.out _).trans (((cell_far (p := ⟨gb144, _, none⟩) NB143_144.out _).trans (hHeld.2.2.2.2.2))))))⟩ (fun hHeld => ?_)
      clear hK K
      refine pure_ (i := 20) (N := some 5) (v := ?_) (a' := ?_) #[true, true, true, true, true, true, true, true, true, true, true, true, true, true, true, true, true, true, true, true, true] rfl rfl (any_of HT_.out (by kernel_rfl)) (fun _ _ _ h => h) (Or.inl ⟨by rfl, ?_⟩) ?_ ?_
      rotate_left
      ·intro w'
       go_simp
       with_reducible rfl
      rotate_left
      ·simp only [Act.put, List.setIfInBounds_toArray, List.set_cons_zero, List.set_cons_succ, i64_w, i32_w]
       rfl
      refine done_ (done_of HT_.out (by kernel_rfl)) ?_
      try go_wp2
      refine bodyPost_ret (results_ct rfl _ _ gb144 29 #[.int .i64 t159, .int .i64 t160, .int .i64 t161] (0, 0) _ rfl (kp (p3_2 (kp (p3_1 (kp (p3_0 (kp BK144.out))))))) Tryd.underlying29 rfl (by kernel_rfl)) rfl ?_
      exact ⟨by first | rfl | (simp [errW_none, errW_some] <;> rfl) | (simp [*, errW_none, errW_some] <;> rfl), bl HB.out⟩

end Go.Proofs.YthfibffgmoblaaaDoor.PD

namespace Go.Proofs.YthfibffgmoblaaaDoor.PD
open Go.Proofs.YthfibffgmoblaaaDoor.Sq Go.RowKit Go.Proofs.YthfibffgmoblaaaDoorW.PrintWords Go.Proofs.YthfibffgmoblaaaDoorW.PrintLast Go.Proofs.YthfibffgmoblaaaDoorW.PrintMore Go.Proofs.YthfibffgmoblaaaDoor.PB Go.Proofs.YthfibffgmoblaaaDoor.PC
attribute [local go_sem] max2_int min2_int max_two min_two max_three min_three max_four min_four   -- for this text's walks alone
set_option linter.unusedVariables false
set_option linter.unusedSimpArgs false

/-! ### frac_Pow: function 38 -/
mutual
def frac_Pow.j0 : Nat → Int → Bool → Int → Int → Int → Option (Int × Int × Int × Int)
 | 0, _, _, _, _, _ => none
 | k + 1, x1, x10, x164000, x164001, x164002 => if x10 = true then (some (0, 0, 0, 1)) else (if x164000 = 0 then (frac_Pow.j1 k x1 (decide (x1 < 0)) x164000 x164001 x164002) else (frac_Pow.j1 k x1 false x164000 x164001 x164002))
def frac_Pow.j1 : Nat → Int → Bool → Int → Int → Int → Option (Int × Int × Int × Int)
 | 0, _, _, _, _, _ => none
 | k + 1, x1, x23, x164000, x164001, x164002 => if x23 = true then (some (0, 0, 0, 11)) else (if x1 = 0 then (some (1, 1, 0, 0)) else (if x164000 = 0 then (some (x164000, x164001, x164002, 0)) else ((frac_loosen.f k x164000 x164001).bind fun bt166 => (if x1 < 0 then ((frac_loose_turned.f k bt166.1 bt166.2.1 bt166.2.2.1 bt166.2.2.2).bind fun bt171 => (frac_Pow.j2 k (wrap64 (-x1)) (wrap64 (x164002 * x1)) bt171.1 bt171.2.1 bt171.2.2.1 bt171.2.2.2)) else (frac_Pow.j2 k x1 (wrap64 (x164002 * x1)) bt166.1 bt166.2.1 bt166.2.2.1 bt166.2.2.2)))))
def frac_Pow.j2 : Nat → Int → Int → Int → Int → Int → Int → Option (Int × Int × Int × Int)
 | 0, _, _, _, _, _, _ => none
 | k + 1, x1, x7, x171000, x171001, x171002, x171003 => frac_Pow.l0 k x7 x1 0 x171000 x171001 x171002 x171003 1 1 0 0
def frac_Pow.l0 : Nat → Int → Int → Int → Int → Int → Int → Int → Int → Int → Int → Int → Option (Int × Int × Int × Int)
 | 0, _, _, _, _, _, _, _, _, _, _, _ => none
 | k + 1, x7, x57, x58, x171000, x171001, x171002, x171003, x176000, x176001, x176002, x176003 => if x58 < x57 then ((frac_loose_times.f k x176000 x176001 x176002 x176003 x171000 x171001 x171002 x171003).bind fun bt176 => (if bt176.2.2.2.2 = true then (frac_Pow.l0 k x7 x57 (wrap64 (x58 + 1)) x171000 x171001 x171002 x171003 bt176.1 bt176.2.1 bt176.2.2.1 bt176.2.2.2.1) else (some (0, 0, 0, 10)))) else ((frac_loose_form.f k x176000 x176001 x176002 x176003 x7).bind fun bt181 => (some (bt181.1, bt181.2.1, bt181.2.2.1, bt181.2.2.2)))
end
def frac_Pow.f (k : Nat) (a0_0 : Int) (a0_1 : Int) (a0_2 : Int) (a1 : Int) : Option (Int × Int × Int × Int) := (frac_Right.f k a0_0 a0_1 a0_2).bind fun t165 => (if t165 = true then (if a1 < (-99) then (frac_Pow.j0 k a1 true a0_0 a0_1 a0_2) else (frac_Pow.j0 k a1 (decide (a1 > 99)) a0_0 a0_1 a0_2)) else (frac_Pow.j0 k a1 true a0_0 a0_1 a0_2))
theorem frac_Pow.mono_l : ∀ k, (∀ y0 y1 y2 y3 y4, LeO (frac_Pow.j0 k y0 y1 y2 y3 y4) (frac_Pow.j0 (k + 1) y0 y1 y2 y3 y4)) ∧ (∀ y0 y1 y2 y3 y4, LeO (frac_Pow.j1 k y0 y1 y2 y3 y4) (frac_Pow.j1 (k + 1) y0 y1 y2 y3 y4)) ∧ (∀ y0 y1 y2 y3 y4 y5, LeO (frac_Pow.j2 k y0 y1 y2 y3 y4 y5) (frac_Pow.j2 (k + 1) y0 y1 y2 y3 y4 y5)) ∧ (∀ y0 y1 y2 y3 y4 y5 y6 y7 y8 y9 y10, LeO (frac_Pow.l0 k y0 y1 y2 y3 y4 y5 y6 y7 y8 y9 y10) (frac_Pow.l0 (k + 1) y0 y1 y2 y3 y4 y5 y6 y7 y8 y9 y10))
 | 0 => ⟨fun _ _ _ _ _ r h => by simp [frac_Pow.j0] at h, fun _ _ _ _ _ r h => by simp [frac_Pow.j1] at h, fun _ _ _ _ _ _ r h => by simp [frac_Pow.j2] at h, fun _ _ _ _ _ _ _ _ _ _ _ r h => by simp [frac_Pow.l0] at h⟩
 | k + 1 => by
  obtain ⟨ih0, ih1, ih2, ih3⟩ := frac_Pow.mono_l k
  refine ⟨?_, ?_, ?_, ?_⟩
  ·intro y0 y1 y2 y3 y4
   unfold frac_Pow.j0
   repeat' first
   | (with_reducible exact ih0 _ _ _ _ _)
   | (with_reducible exact ih1 _ _ _ _ _)
   | (with_reducible exact ih2 _ _ _ _ _ _)
   | (with_reducible exact ih3 _ _ _ _ _ _ _ _ _ _ _)
   | (with_reducible exact frac_Right.mono _ _ _ _)
   | (with_reducible exact frac_loose_form.mono _ _ _ _ _ _)
   | (with_reducible exact frac_loose_times.mono _ _ _ _ _ _ _ _ _)
   | (with_reducible exact frac_loose_turned.mono _ _ _ _ _)
   | (with_reducible exact frac_loosen.mono _ _ _)
   | (with_reducible exact LeO.refl _)
   | (with_reducible exact LeO.none _)
   | (with_reducible refine LeO.ite ?_ ?_)
   | (with_reducible refine LeO.bind ?_ (fun _ => ?_))
   | exact ih0 _ _ _ _ _
   | exact ih1 _ _ _ _ _
   | exact ih2 _ _ _ _ _ _
   | exact ih3 _ _ _ _ _ _ _ _ _ _ _
   | exact frac_Right.mono _ _ _ _
   | exact frac_loose_form.mono _ _ _ _ _ _
   | exact frac_loose_times.mono _ _ _ _ _ _ _ _ _
   | exact frac_loose_turned.mono _ _ _ _ _
   | exact frac_loosen.mono _ _ _
   | exact LeO.none _
   | refine LeO.ite ?_ ?_
   | refine LeO.bind ?_ (fun _ => ?_)
  ·intro y0 y1 y2 y3 y4
   unfold frac_Pow.j1
   repeat' first
   | (with_reducible exact ih0 _ _ _ _ _)
   | (with_reducible exact ih1 _ _ _ _ _)
   | (with_reducible exact ih2 _ _ _ _ _ _)
   | (with_reducible exact ih3 _ _ _ _ _ _ _ _ _ _ _)
   | (with_reducible exact frac_Right.mono _ _ _ _)
   | (with_reducible exact frac_loose_form.mono _ _ _ _ _ _)
   | (with_reducible exact frac_loose_times.mono _ _ _ _ _ _ _ _ _)
   | (with_reducible exact frac_loose_turned.mono _ _ _ _ _)
   | (with_reducible exact frac_loosen.mono _ _ _)
   | (with_reducible exact LeO.refl _)
   | (with_reducible exact LeO.none _)
   | (with_reducible refine LeO.ite ?_ ?_)
   | (with_reducible refine LeO.bind ?_ (fun _ => ?_))
   | exact ih0 _ _ _ _ _
   | exact ih1 _ _ _ _ _
   | exact ih2 _ _ _ _ _ _
   | exact ih3 _ _ _ _ _ _ _ _ _ _ _
   | exact frac_Right.mono _ _ _ _
   | exact frac_loose_form.mono _ _ _ _ _ _
   | exact frac_loose_times.mono _ _ _ _ _ _ _ _ _
   | exact frac_loose_turned.mono _ _ _ _ _
   | exact frac_loosen.mono _ _ _
   | exact LeO.none _
   | refine LeO.ite ?_ ?_
   | refine LeO.bind ?_ (fun _ => ?_)
  ·intro y0 y1 y2 y3 y4 y5
   unfold frac_Pow.j2
   repeat' first
   | (with_reducible exact ih0 _ _ _ _ _)
   | (with_reducible exact ih1 _ _ _ _ _)
   | (with_reducible exact ih2 _ _ _ _ _ _)
   | (with_reducible exact ih3 _ _ _ _ _ _ _ _ _ _ _)
   | (with_reducible exact frac_Right.mono _ _ _ _)
   | (with_reducible exact frac_loose_form.mono _ _ _ _ _ _)
   | (with_reducible exact frac_loose_times.mono _ _ _ _ _ _ _ _ _)
   | (with_reducible exact frac_loose_turned.mono _ _ _ _ _)
   | (with_reducible exact frac_loosen.mono _ _ _)
   | (with_reducible exact LeO.refl _)
   | (with_reducible exact LeO.none _)
   | (with_reducible refine LeO.ite ?_ ?_)
   | (with_reducible refine LeO.bind ?_ (fun _ => ?_))
   | exact ih0 _ _ _ _ _
   | exact ih1 _ _ _ _ _
   | exact ih2 _ _ _ _ _ _
   | exact ih3 _ _ _ _ _ _ _ _ _ _ _
   | exact frac_Right.mono _ _ _ _
   | exact frac_loose_form.mono _ _ _ _ _ _
   | exact frac_loose_times.mono _ _ _ _ _ _ _ _ _
   | exact frac_loose_turned.mono _ _ _ _ _
   | exact frac_loosen.mono _ _ _
   | exact LeO.none _
   | refine LeO.ite ?_ ?_
   | refine LeO.bind ?_ (fun _ => ?_)
  ·intro y0 y1 y2 y3 y4 y5 y6 y7 y8 y9 y10
   unfold frac_Pow.l0
   repeat' first
   | (with_reducible exact ih0 _ _ _ _ _)
   | (with_reducible exact ih1 _ _ _ _ _)
   | (with_reducible exact ih2 _ _ _ _ _ _)
   | (with_reducible exact ih3 _ _ _ _ _ _ _ _ _ _ _)
   | (with_reducible exact frac_Right.mono _ _ _ _)
   | (with_reducible exact frac_loose_form.mono _ _ _ _ _ _)
   | (with_reducible exact frac_loose_times.mono _ _ _ _ _ _ _ _ _)
   | (with_reducible exact frac_loose_turned.mono _ _ _ _ _)
   | (with_reducible exact frac_loosen.mono _ _ _)
   | (with_reducible exact LeO.refl _)
   | (with_reducible exact LeO.none _)
   | (with_reducible refine LeO.ite ?_ ?_)
   | (with_reducible refine LeO.bind ?_ (fun _ => ?_))
   | exact ih0 _ _ _ _ _
   | exact ih1 _ _ _ _ _
   | exact ih2 _ _ _ _ _ _
   | exact ih3 _ _ _ _ _ _ _ _ _ _ _
   | exact frac_Right.mono _ _ _ _
   | exact frac_loose_form.mono _ _ _ _ _ _
   | exact frac_loose_times.mono _ _ _ _ _ _ _ _ _
   | exact frac_loose_turned.mono _ _ _ _ _
   | exact frac_loosen.mono _ _ _
   | exact LeO.none _
   | refine LeO.ite ?_ ?_
   | refine LeO.bind ?_ (fun _ => ?_)
theorem frac_Pow.mono : ∀ a0 a1 a2 a3 k, LeO (frac_Pow.f k a0 a1 a2 a3) (frac_Pow.f (k + 1) a0 a1 a2 a3) := by
 intro a0 a1 a2 a3 k
 obtain ⟨ih0, ih1, ih2, ih3⟩ := frac_Pow.mono_l k
 unfold frac_Pow.f
 repeat' first
   | (with_reducible exact ih0 _ _ _ _ _)
   | (with_reducible exact ih1 _ _ _ _ _)
   | (with_reducible exact ih2 _ _ _ _ _ _)
   | (with_reducible exact ih3 _ _ _ _ _ _ _ _ _ _ _)
   | (with_reducible exact frac_Right.mono _ _ _ _)
   | (with_reducible exact frac_loose_form.mono _ _ _ _ _ _)
   | (with_reducible exact frac_loose_times.mono _ _ _ _ _ _ _ _ _)
   | (with_reducible exact frac_loose_turned.mono _ _ _ _ _)
   | (with_reducible exact frac_loosen.mono _ _ _)
   | (with_reducible exact LeO.refl _)
   | (with_reducible exact LeO.none _)
   | (with_reducible refine LeO.ite ?_ ?_)
   | (with_reducible refine LeO.bind ?_ (fun _ => ?_))
   | exact ih0 _ _ _ _ _
   | exact ih1 _ _ _ _ _
   | exact ih2 _ _ _ _ _ _
   | exact ih3 _ _ _ _ _ _ _ _ _ _ _
   | exact frac_Right.mono _ _ _ _
   | exact frac_loose_form.mono _ _ _ _ _ _
   | exact frac_loose_times.mono _ _ _ _ _ _ _ _ _
   | exact frac_loose_turned.mono _ _ _ _ _
   | exact frac_loosen.mono _ _ _
   | exact LeO.none _
   | refine LeO.ite ?_ ?_
   | refine LeO.bind ?_ (fun _ => ?_)
def frac_Pow.T9 : Bool × List (List Nat × List Nat) := (true, [([], []), ([0], [0]), ([], []), ([2], [2]), ([1, 3], [1, 3]), ([], []), ([5], [5]), ([], []), ([6, 7], [6, 7]), ([], []), ([9, 4, 4, 0, 1, 2, 3, 4, 9], [4, 9]), ([8, 10, 0, 1, 2, 3, 4, 5, 6, 7, 8, 9, 10], [8])])
def frac_Pow.B9 : List Nat := [0, 1, 0, 4, 15, 0, 32, 0, 224, 0, 543, 2047]
theorem frac_Pow.tab9 : rtab .any (opsOf Tryd.f38 9) = frac_Pow.T9 := by kernel_rfl
theorem frac_Pow.bits9 : waitsOk frac_Pow.T9.2 frac_Pow.B9 = true := by kernel_rfl
set_option maxHeartbeats 8000000 in
set_option maxRecDepth 100000 in
theorem frac_Pow.calls (k : Nat) (a0_0 : Int) (a0_1 : Int) (a0_2 : Int) (a1 : Int) (r1 : Int) (r2 : Int) (r3 : Int) (r4 : Int) (w : World) (hG : Glob [0, 1] w) (h : frac_Pow.f k a0_0 a0_1 a0_2 a1 = some (r1, r2, r3, r4)) :
  Calls Tryd.prog 38 #[.agg #[.int .i64 a0_0, .int .i64 a0_1, .int .i64 a0_2], .int .i64 a1] w fun e w' => e = .returned (.tuple #[.agg #[.int .i64 r1, .int .i64 r2, .int .i64 r3], .int .i64 r4]) ∧ Below w.heap.size w w' := by
 have hu29 := Tryd.underlying29
 have hu100 := Tryd.underlying100
 have HB := Aside0.mk (Below.refl w.heap.size w)
 have H : ((frac_Right.f k a0_0 a0_1 a0_2).bind fun t165 => (if t165 = true then (if a1 < (-99) then (frac_Pow.j0 k a1 true a0_0 a0_1 a0_2) else (frac_Pow.j0 k a1 (decide (a1 > 99)) a0_0 a0_1 a0_2)) else (frac_Pow.j0 k a1 true a0_0 a0_1 a0_2))) = some (r1, r2, r3, r4) := h
 clear h
 have HC3 := Aside0.mk H
 clear H
 go_enter Tryd.func38, Tryd.ntmps38
 go_upto_region 1 with (first | ((with_reducible refine gate_dst (N := 2) rfl ?_); refine box_event ?hg (N := 2) ?hd (cs := #[.int .i64 a0_0, .int .i64 a0_1, .int .i64 a0_2]) (t := 29) ?hr ?_; (case hd => rfl); (case hg => rfl); (case hr => first | (go_simp; done) | (go_simp; rfl)); intro gb163 hg w4 hbox hb; have n0_ := sb HB hb; have n1_ := Aside0.mk (hbox); have n2_ := Aside0.mk ((by rw [hg]; exact (below_size (bl HB.out)) : w.heap.size ≤ gb163)); have n3_ := Aside0.mk ((by rw [hg]; exact (below_size (bl HB.out)) : w.heap.size ≤ gb163)); clear HB; have HB := n0_; have BK163 := n1_; have GW163 := n2_; have GE163 := n3_; clear n0_ n1_ n2_ n3_; clear hb hbox hg) | ((with_reducible refine gate_dst (N := 4) rfl ?_); refine box_event ?hg (N := 4) ?hd (cs := #[.int .i64 0, .int .i64 0, .int .i64 0]) (t := 29) ?hr ?_; (case hd => rfl); (case hg => rfl); (case hr => first | (go_simp; done) | (go_simp; rfl)); intro gb164 hg w5 hbox hb; have n0_ := kb BK163 hb; have n1_ := sb HB hb; have n2_ := Aside0.mk (hbox); have n3_ := Aside0.mk ((by rw [hg]; exact (below_size (bl HB.out)) : w.heap.size ≤ gb164)); have n4_ := Aside0.mk ((by rw [hg]; exact (below_size (bl HB.out)) : w.heap.size ≤ gb164)); have n5_ := Aside0.mk ((by rw [hg]; exact Nat.ne_of_lt (blk_lt (kp BK163.out)) : gb163 ≠ gb164)); have n6_ := Aside0.mk ((by rw [hg]; exact Nat.ne_of_gt (blk_lt (kp BK163.out)) : gb164 ≠ gb163)); clear BK163; clear HB; have BK163 := n0_; have HB := n1_; have BK164 := n2_; have GW164 := n3_; have GE164 := n4_; have NB163_164 := n5_; have NB164_163 := n6_; clear n0_ n1_ n2_ n3_ n4_ n5_ n6_; clear hb hbox hg))
 (try simp only [Act.put, List.setIfInBounds_toArray, List.set_cons_zero, List.set_cons_succ])
 go_cut [10] (fun v10 wc => ∃ (kq : Nat) (x10_2 : Bool), v10 = .bool x10_2 ∧ Aside0 (frac_Pow.j0 kq a1 x10_2 a0_0 a0_1 a0_2 = some (r1, r2, r3, r4)) ∧ Aside0 (kq ≤ k) ∧ Aside0 (wc.heap[gb163]? = some (.cells #[.int .i64 a0_0, .int .i64 a0_1, .int .i64 a0_2] 29 (0, 0))) ∧ Aside0 (wc.heap[gb164]? = some (.cells #[.int .i64 0, .int .i64 0, .int .i64 0] 29 (0, 0))) ∧ Aside0 (Below w.heap.size w wc))
 case first =>
  have H := HC3.out
  clear HC3
  replace H := Option.bind_eq_some_iff.mp H
  obtain ⟨t165, A60, H⟩ := H
  replace H : (if t165 = true then (if a1 < (-99) then (frac_Pow.j0 k a1 true a0_0 a0_1 a0_2) else (frac_Pow.j0 k a1 (decide (a1 > 99)) a0_0 a0_1 a0_2)) else (frac_Pow.j0 k a1 true a0_0 a0_1 a0_2)) = some (r1, r2, r3, r4) := H
  have A6 := Aside0.mk A60
  clear A60
  by_cases c7 : t165 = true
  ·subst c7
   have H1 : (if a1 < (-99) then (frac_Pow.j0 k a1 true a0_0 a0_1 a0_2) else (frac_Pow.j0 k a1 (decide (a1 > 99)) a0_0 a0_1 a0_2)) = some (r1, r2, r3, r4) := by rw [if_pos rfl] at H; exact H
   clear H
   have H := H1
   clear H1
   by_cases c8 : a1 < (-99)
   ·rw [if_pos c8] at H
    have c8b0 : decide (a1 < (-99)) = true := decide_eq_true c8
    clear c8
    (first | rw [c8b0] | (simp only [i64_w, i32_w]; rw [c8b0]) | skip)
    have H' := Aside0.mk H
    clear H
    have hnb9 := NB163_164.out
    have hnc9 := NB164_163.out
    obtain ⟨hcz10_0, hcz10_1, hcz10_2⟩ := hc3 BK163.out
    obtain ⟨hfz10_0, hfz10_1, hfz10_2⟩ := hf3 BK163.out
    go_wp2_with (first | (go_at_call 47; (with_reducible refine (frac_Right.calls k a0_0 a0_1 a0_2 true _ A6.out).mono ?_); rintro e w11 ⟨rfl, hb⟩; replace BK163 := kb BK163 hb; replace BK164 := kb BK164 hb; replace HB := sb HB hb; (try clear hb); (try clear hb2); (try clear hk); (try clear hi)))
    go_meet
    case rel => exact ⟨_, (true), (by first | rfl | (simp; done) | (simp [*]; done)), H', ⟨by first | omega | exact Nat.le_refl _⟩, ⟨kp BK163.out⟩, ⟨kp BK164.out⟩, ⟨bl HB.out⟩⟩
   ·rw [if_neg c8] at H
    have c8b0 : decide (a1 < (-99)) = false := decide_eq_false c8
    clear c8
    (first | rw [c8b0] | (simp only [i64_w, i32_w]; rw [c8b0]) | skip)
    have H' := Aside0.mk H
    clear H
    have hnb12 := NB163_164.out
    have hnc12 := NB164_163.out
    obtain ⟨hcz13_0, hcz13_1, hcz13_2⟩ := hc3 BK163.out
    obtain ⟨hfz13_0, hfz13_1, hfz13_2⟩ := hf3 BK163.out
    go_wp2_with (first | (go_at_call 47; (with_reducible refine (frac_Right.calls k a0_0 a0_1 a0_2 true _ A6.out).mono ?_); rintro e w14 ⟨rfl, hb⟩; replace BK163 := kb BK163 hb; replace BK164 := kb BK164 hb; replace HB := sb HB hb; (try clear hb); (try clear hb2); (try clear hk); (try clear hi)))
    go_meet
    case rel => exact ⟨_, (decide (a1 > 99)), (by first | rfl | (simp; done) | (simp [*]; done)), H', ⟨by first | omega | exact Nat.le_refl _⟩, ⟨kp BK163.out⟩, ⟨kp BK164.out⟩, ⟨bl HB.out⟩⟩
  ·replace c7 := Bool.eq_false_iff.mpr c7
   subst c7
   have H1 : (frac_Pow.j0 k a1 true a0_0 a0_1 a0_2) = some (r1, r2, r3, r4) := by rw [if_neg (show ¬ (false = true) by decide)] at H; exact H
   clear H
   have H := H1
   clear H1
   have H' := Aside0.mk H
   clear H
   have hnb15 := NB163_164.out
   have hnc15 := NB164_163.out
   obtain ⟨hcz16_0, hcz16_1, hcz16_2⟩ := hc3 BK163.out
   obtain ⟨hfz16_0, hfz16_1, hfz16_2⟩ := hf3 BK163.out
   go_wp2_with (first | (go_at_call 47; (with_reducible refine (frac_Right.calls k a0_0 a0_1 a0_2 false _ A6.out).mono ?_); rintro e w17 ⟨rfl, hb⟩; replace BK163 := kb BK163 hb; replace BK164 := kb BK164 hb; replace HB := sb HB hb; (try clear hb); (try clear hb2); (try clear hk); (try clear hi)))
   go_meet
   case rel => exact ⟨_, (true), (by first | rfl | (simp; done) | (simp [*]; done)), H', ⟨by first | omega | exact Nat.le_refl _⟩, ⟨kp BK163.out⟩, ⟨kp BK164.out⟩, ⟨bl HB.out⟩⟩
 case rest =>
  clear HC3
  try clear c1
  try clear p2
  try clear c3
  try clear c4
  try clear c7
  try clear c8
  try clear c8b0
  try clear c9
  try clear c12
  try clear c15
  try clear hcz10_0 hcz10_1 hcz10_2
  try clear hcz13_0 hcz13_1 hcz13_2
  try clear hcz16_0 hcz16_1 hcz16_2
  try clear hfz10_0 hfz10_1 hfz10_2
  try clear hfz13_0 hfz13_1 hfz13_2
  try clear hfz16_0 hfz16_1 hfz16_2
  obtain ⟨kq, x10_2, rfl, HA, HJ2, BK163, BK164, HB⟩ := hcut
  cases kq with
  | zero => exact absurd HA.out (by simp [frac_Pow.j0])
  | succ kj2 =>
   have H := HA.out
   clear HA
   simp only [frac_Pow.j0] at H
   by_cases c18 : x10_2 = true
   ·subst c18
    have H1 : (some (0, 0, 0, 1)) = some (r1, r2, r3, r4) := by rw [if_pos rfl] at H; exact H
    clear H
    have H := H1
    clear H1
    simp only [Option.some.injEq, Prod.mk.injEq] at H
    obtain ⟨rfl, rfl, rfl, rfl⟩ := H
    have hnb19 := NB164_163.out
    have hnc19 := NB163_164.out
    obtain ⟨hcz20_0, hcz20_1, hcz20_2⟩ := hc3 BK164.out
    obtain ⟨hfz20_0, hfz20_1, hfz20_2⟩ := hf3 BK164.out
    go_wp2
    refine bodyPost_ret (results_ct rfl _ _ gb164 29 #[.int .i64 0, .int .i64 0, .int .i64 0] (0, 0) _ rfl (kp (p3_2 (kp (p3_1 (kp (p3_0 (kp BK164.out))))))) Tryd.underlying29 rfl (by kernel_rfl)) rfl ?_
    exact ⟨by first | rfl | (simp [errW_none, errW_some] <;> rfl) | (simp [*, errW_none, errW_some] <;> rfl), bl HB.out⟩
   ·replace c18 := Bool.eq_false_iff.mpr c18
    subst c18
    have H1 : (if a0_0 = 0 then (frac_Pow.j1 kj2 a1 (decide (a1 < 0)) a0_0 a0_1 a0_2) else (frac_Pow.j1 kj2 a1 false a0_0 a0_1 a0_2)) = some (r1, r2, r3, r4) := by rw [if_neg (show ¬ (false = true) by decide)] at H; exact H
    clear H
    have H := H1
    clear H1
    have HC21 := Aside0.mk H
    clear H
    go_upto_region 3 with (fail)
    go_cut [23] (fun v23 wc => ∃ (kq : Nat) (x23_20 : Bool), v23 = .bool x23_20 ∧ Aside0 (frac_Pow.j1 kq a1 x23_20 a0_0 a0_1 a0_2 = some (r1, r2, r3, r4)) ∧ Aside0 (kq ≤ kj2) ∧ Aside0 (wc.heap[gb163]? = some (.cells #[.int .i64 a0_0, .int .i64 a0_1, .int .i64 a0_2] 29 (0, 0))) ∧ Aside0 (wc.heap[gb164]? = some (.cells #[.int .i64 0, .int .i64 0, .int .i64 0] 29 (0, 0))) ∧ Aside0 (Below w.heap.size w wc))
    case first =>
     have H := HC21.out
     clear HC21
     by_cases c22 : a0_0 = 0
     ·rw [if_pos c22] at H
      have c22b0 : (a0_0 == 0) = true := beq_iff_eq.mpr c22
      have c22b1 : (a0_0 != 0) = false := bne_eq_false_iff_eq.mpr c22
      clear c22
      (first | rw [c22b0] | (simp only [i64_w, i32_w]; rw [c22b0]) | skip)
      have H' := Aside0.mk H
      clear H
      have hnb23 := NB163_164.out
      have hnc23 := NB164_163.out
      obtain ⟨hcz24_0, hcz24_1, hcz24_2⟩ := hc3 BK163.out
      obtain ⟨hfz24_0, hfz24_1, hfz24_2⟩ := hf3 BK163.out
      go_wp2
      go_meet
      case rel => exact ⟨_, (decide (a1 < 0)), (by first | rfl | (simp; done) | (simp [*]; done)), H', ⟨by have := HJ2.out; first | omega | exact Nat.le_refl _⟩, ⟨kp BK163.out⟩, ⟨kp BK164.out⟩, ⟨bl HB.out⟩⟩
     ·rw [if_neg c22] at H
      have c22b0 : (a0_0 == 0) = false := beq_eq_false_iff_ne.mpr c22
      have c22b1 : (a0_0 != 0) = true := bne_iff_ne.mpr c22
      (first | rw [c22b0] | (simp only [i64_w, i32_w]; rw [c22b0]) | skip)
      have H' := Aside0.mk H
      clear H
      have hnb25 := NB163_164.out
      have hnc25 := NB164_163.out
      obtain ⟨hcz26_0, hcz26_1, hcz26_2⟩ := hc3 BK163.out
      obtain ⟨hfz26_0, hfz26_1, hfz26_2⟩ := hf3 BK163.out
      go_wp2
      go_meet
      case rel => exact ⟨_, (false), (by first | rfl | (simp; done) | (simp [*]; done)), H', ⟨by have := HJ2.out; first | omega | exact Nat.le_refl _⟩, ⟨kp BK163.out⟩, ⟨kp BK164.out⟩, ⟨bl HB.out⟩⟩
    case rest =>
     clear HC21
     try clear c1
     try clear c2
     try clear p2
     try clear c3
     try clear c4
     try clear c7
     try clear c8
     try clear c8b0
     try clear c9
     try clear c12
     try clear c15
     try clear c18
     try clear c19
     try clear c22
     try clear c22b0
     try clear c22b1
     try clear c23
     try clear c25
     try clear hcz10_0 hcz10_1 hcz10_2
     try clear hcz13_0 hcz13_1 hcz13_2
     try clear hcz16_0 hcz16_1 hcz16_2
     try clear hcz20_0 hcz20_1 hcz20_2
     try clear hcz24_0 hcz24_1 hcz24_2
     try clear hcz26_0 hcz26_1 hcz26_2
     try clear hfz10_0 hfz10_1 hfz10_2
     try clear hfz13_0 hfz13_1 hfz13_2
     try clear hfz16_0 hfz16_1 hfz16_2
     try clear hfz20_0 hfz20_1 hfz20_2
     try clear hfz24_0 hfz24_1 hfz24_2
     try clear hfz26_0 hfz26_1 hfz26_2
     try clear p2
     obtain ⟨kq, x23_20, rfl, HA, HJ20, BK163, BK164, HB⟩ := hcut
     cases kq with
     | zero => exact absurd HA.out (by simp [frac_Pow.j1])
     | succ kj20 =>
      have H := HA.out
      clear HA
      simp only [frac_Pow.j1] at H
      by_cases c27 : x23_20 = true
      ·subst c27
       have H1 : (some (0, 0, 0, 11)) = some (r1, r2, r3, r4) := by rw [if_pos rfl] at H; exact H
       clear H
       have H := H1
       clear H1
       simp only [Option.some.injEq, Prod.mk.injEq] at H
       obtain ⟨rfl, rfl, rfl, rfl⟩ := H
       have hnb28 := NB164_163.out
       have hnc28 := NB163_164.out
       obtain ⟨hcz29_0, hcz29_1, hcz29_2⟩ := hc3 BK164.out
       obtain ⟨hfz29_0, hfz29_1, hfz29_2⟩ := hf3 BK164.out
       go_wp2
       refine bodyPost_ret (results_ct rfl _ _ gb164 29 #[.int .i64 0, .int .i64 0, .int .i64 0] (0, 0) _ rfl (kp (p3_2 (kp (p3_1 (kp (p3_0 (kp BK164.out))))))) Tryd.underlying29 rfl (by kernel_rfl)) rfl ?_
       exact ⟨by first | rfl | (simp [errW_none, errW_some] <;> rfl) | (simp [*, errW_none, errW_some] <;> rfl), bl HB.out⟩
      ·replace c27 := Bool.eq_false_iff.mpr c27
       subst c27
       have H1 : (if a1 = 0 then (some (1, 1, 0, 0)) else (if a0_0 = 0 then (some (a0_0, a0_1, a0_2, 0)) else ((frac_loosen.f kj20 a0_0 a0_1).bind fun bt166 => (if a1 < 0 then ((frac_loose_turned.f kj20 bt166.1 bt166.2.1 bt166.2.2.1 bt166.2.2.2).bind fun bt171 => (frac_Pow.j2 kj20 (wrap64 (-a1)) (wrap64 (a0_2 * a1)) bt171.1 bt171.2.1 bt171.2.2.1 bt171.2.2.2)) else (frac_Pow.j2 kj20 a1 (wrap64 (a0_2 * a1)) bt166.1 bt166.2.1 bt166.2.2.1 bt166.2.2.2))))) = some (r1, r2, r3, r4) := by rw [if_neg (show ¬ (false = true) by decide)] at H; exact H
       clear H
       have H := H1
       clear H1
       by_cases c30 : a1 = 0
       ·rw [if_pos c30] at H
        have c30b0 : (a1 == 0) = true := beq_iff_eq.mpr c30
        have c30b1 : (a1 != 0) = false := bne_eq_false_iff_eq.mpr c30
        clear c30
        simp only [Option.some.injEq, Prod.mk.injEq] at H
        obtain ⟨rfl, rfl, rfl, rfl⟩ := H
        obtain ⟨tvg31, hvg31⟩ := hG.v0 rfl
        have hlg31 := blk_lt hvg31
        have hng31_0 : gb163 ≠ 0 := (by have h_ := GE163.out; omega)
        have hng31_1 : gb164 ≠ 0 := (by have h_ := GE164.out; omega)
        have hmg31_0 : 0 ≠ gb163 := fun h_ => hng31_0 h_.symm
        have hmg31_1 : 0 ≠ gb164 := fun h_ => hng31_1 h_.symm
        clear hlg31 hvg31
        clear tvg31
        obtain ⟨tvg31, hvg31⟩ := Flat.FlatVar.below (hG.v0 rfl) HB.out
        have hcg31_0 : wc.cell? ⟨0, 0, none⟩ = some (.int .i64 1) := (blk_cell hvg31 0).trans rfl
        have hcg31_1 : wc.cell? ⟨0, 1, none⟩ = some (.int .i64 1) := (blk_cell hvg31 1).trans rfl
        have hcg31_2 : wc.cell? ⟨0, 2, none⟩ = some (.int .i64 0) := (blk_cell hvg31 2).trans rfl
        clear hvg31
        have hnb32 := NB164_163.out
        have hnc32 := NB163_164.out
        obtain ⟨hcz33_0, hcz33_1, hcz33_2⟩ := hc3 BK164.out
        obtain ⟨hfz33_0, hfz33_1, hfz33_2⟩ := hf3 BK164.out
        go_wp2
        refine bodyPost_ret (results_ct rfl _ _ gb164 29 #[.int .i64 1, .int .i64 1, .int .i64 0] (0, 0) _ rfl (kp (p3_2 (kp (p3_1 (kp (p3_0 (kp BK164.out))))))) Tryd.underlying29 rfl (by kernel_rfl)) rfl ?_
        exact ⟨by first | rfl | (simp [errW_none, errW_some] <;> rfl) | (simp [*, errW_none, errW_some] <;> rfl), bl HB.out⟩
       ·rw [if_neg c30] at H
        have c30b0 : (a1 == 0) = false := beq_eq_false_iff_ne.mpr c30
        have c30b1 : (a1 != 0) = true := bne_iff_ne.mpr c30
        by_cases c34 : a0_0 = 0
        ·rw [if_pos c34] at H
         have c34b0 : (a0_0 == 0) = true := beq_iff_eq.mpr c34
         have c34b1 : (a0_0 != 0) = false := bne_eq_false_iff_eq.mpr c34
         clear c34
         simp only [Option.some.injEq, Prod.mk.injEq] at H
         obtain ⟨rfl, rfl, rfl, rfl⟩ := H
         have hnb35 := NB163_164.out
         have hnc35 := NB164_163.out
         obtain ⟨hcz36_0, hcz36_1, hcz36_2⟩ := hc3 BK163.out
         obtain ⟨hfz36_0, hfz36_1, hfz36_2⟩ := hf3 BK163.out
         obtain ⟨hcz37_0, hcz37_1, hcz37_2⟩ := hc3 BK164.out
         obtain ⟨hfz37_0, hfz37_1, hfz37_2⟩ := hf3 BK164.out
         go_wp2
         refine bodyPost_ret (results_ct rfl _ _ gb164 29 #[.int .i64 a0_0, .int .i64 a0_1, .int .i64 a0_2] (0, 0) _ rfl (kp (p3_2 (kp (p3_1 (kp (p3_0 (kp BK164.out))))))) Tryd.underlying29 rfl (by kernel_rfl)) rfl ?_
         exact ⟨by first | rfl | (simp [errW_none, errW_some] <;> rfl) | (simp [*, errW_none, errW_some] <;> rfl), bl HB.out⟩
        ·rw [if_neg c34] at H
         have c34b0 : (a0_0 == 0) = false := beq_eq_false_iff_ne.mpr c34
         have c34b1 : (a0_0 != 0) = true := bne_iff_ne.mpr c34
         replace H := Option.bind_eq_some_iff.mp H
         obtain ⟨⟨t166, t167, t168, t169⟩, A380, H⟩ := H
         replace H : (if a1 < 0 then ((frac_loose_turned.f kj20 t166 t167 t168 t169).bind fun bt171 => (frac_Pow.j2 kj20 (wrap64 (-a1)) (wrap64 (a0_2 * a1)) bt171.1 bt171.2.1 bt171.2.2.1 bt171.2.2.2)) else (frac_Pow.j2 kj20 a1 (wrap64 (a0_2 * a1)) t166 t167 t168 t169)) = some (r1, r2, r3, r4) := H
         have A38 := Aside0.mk A380
         clear A380
         have HC39 := Aside0.mk H
         clear H
         have hnb40 := NB163_164.out
         have hnc40 := NB164_163.out
         obtain ⟨hcz41_0, hcz41_1, hcz41_2⟩ := hc3 BK163.out
         obtain ⟨hfz41_0, hfz41_1, hfz41_2⟩ := hf3 BK163.out
         try go_wp2
         (try (rw [drewN_self wc]; generalize hq_ : World.drewN wc _ = wc; replace BK163 := Aside0.mk (kq hq_ BK163.out); replace BK164 := Aside0.mk (kq hq_ BK164.out); replace HB := Aside0.mk (bq hq_ HB.out); clear hq_))
         replace BK163 := Aside0.mk (blk_drew BK163.out)
         replace BK164 := Aside0.mk (blk_drew BK164.out)
         replace HB := Aside0.mk (below_drew1 HB.out)
         refine start_ (n := 12) (S := fun w' => w'.cell? ⟨gb163, 0, none⟩ = some (.int .i64 a0_0) ∧ w'.cell? ⟨gb163, 1, none⟩ = some (.int .i64 a0_1) ∧ w'.cell? ⟨gb163, 2, none⟩ = some (.int .i64 a0_2)) (ds := []) #[false, false, false, false, false, false, false, false, false, false, false, false] (by kernel_rfl) rfl rfl ⟨(blk_cell BK163.out 0).trans rfl, (blk_cell BK163.out 1).trans rfl, (blk_cell BK163.out 2).trans rfl⟩ (fun hHeld => ?_); refine with_tabW frac_Pow.tab9 frac_Pow.bits9 (fun HT_ HW_ => ?_)
         generalize wc.drew = w42 at BK163 BK164 HB hHeld ⊢
         refine pure_ (i := 0) (N := some 41) (v := ?_) (a' := ?_) #[true, false, false, false, false, false, false, false, false, false, false, false] rfl rfl (any_of HT_.out (by kernel_rfl)) (fun _ _ _ h => h) (Or.inl ⟨by rfl, ?_⟩) ?_ ?_
         rotate_left
         ·intro w'
          go_simp
          with_reducible rfl
         rotate_left
         ·simp only [Act.put, List.setIfInBounds_toArray, List.set_cons_zero, List.set_cons_succ, i64_w, i32_w]
          rfl
         refine pure_ (i := 2) (N := some 43) (v := ?_) (a' := ?_) #[true, false, true, false, false, false, false, false, false, false, false, false] rfl rfl (any_of HT_.out (by kernel_rfl)) (fun _ _ _ h => h) (Or.inl ⟨by rfl, ?_⟩) ?_ ?_
         rotate_left
         ·intro w'
          go_simp
          with_reducible rfl
         rotate_left
         ·simp only [Act.put, List.setIfInBounds_toArray, List.set_cons_zero, List.set_cons_succ, i64_w, i32_w]
          rfl
         refine pure_ (i := 5) (N := some 46) (v := ?_) (a' := ?_) #[true, false, true, false, false, true, false, false, false, false, false, false] rfl rfl (any_of HT_.out (by kernel_rfl)) (fun _ _ _ h => h) (Or.inl ⟨by rfl, ?_⟩) ?_ ?_
         rotate_left
         ·intro w'
          go_simp
          with_reducible rfl
         rotate_left
         ·simp only [Act.put, List.setIfInBounds_toArray, List.set_cons_zero, List.set_cons_succ, i64_w, i32_w]
          rfl
         refine pure_ (i := 7) (N := some 48) (v := ?_) (a' := ?_) #[true, false, true, false, false, true, false, true, false, false, false, false] rfl rfl (any_of HT_.out (by kernel_rfl)) (fun _ _ _ h => h) (Or.inl ⟨by rfl, ?_⟩) ?_ ?_
         rotate_left
         ·intro w'
          go_simp
          with_reducible rfl
         rotate_left
         ·simp only [Act.put, List.setIfInBounds_toArray, List.set_cons_zero, List.set_cons_succ, i64_w, i32_w]
          rfl
         refine take_ (i := 1) (N := some 42) (v := ?_) (a' := ?_) #[true, true, true, false, false, true, false, true, false, false, false, false] rfl rfl (take_ofW HT_.out HW_.out (by kernel_rfl)) (fun _ _ _ h => h) (Or.inl ⟨by rfl, ?_⟩) hHeld ?_ ?_
         rotate_left
         ·rintro w' ⟨s0, s1, s2⟩
          go_simp
          with_reducible rfl
         rotate_left
         ·simp only [Act.put, List.setIfInBounds_toArray, List.set_cons_zero, List.set_cons_succ, i64_w, i32_w]
          rfl
         refine take_ (i := 3) (N := some 44) (v := ?_) (a' := ?_) #[true, true, true, true, false, true, false, true, false, false, false, false] rfl rfl (take_ofW HT_.out HW_.out (by kernel_rfl)) (fun _ _ _ h => h) (Or.inl ⟨by rfl, ?_⟩) hHeld ?_ ?_
         rotate_left
         ·rintro w' ⟨s0, s1, s2⟩
          go_simp
          with_reducible rfl
         rotate_left
         ·simp only [Act.put, List.setIfInBounds_toArray, List.set_cons_zero, List.set_cons_succ, i64_w, i32_w]
          rfl
         refine take_ (i := 6) (N := some 47) (v := ?_) (a' := ?_) #[true, true, true, true, false, true, true, true, false, false, false, false] rfl rfl (take_ofW HT_.out HW_.out (by kernel_rfl)) (fun _ _ _ h => h) (Or.inl ⟨by rfl, ?_⟩) hHeld ?_ ?_
         rotate_left
         ·rintro w' ⟨s0, s1, s2⟩
          go_simp
          with_reducible rfl
         rotate_left
         ·simp only [Act.put, List.setIfInBounds_toArray, List.set_cons_zero, List.set_cons_succ, i64_w, i32_w]
          rfl
         refine pure_ (i := 8) (N := some 49) (v := ?_) (a' := ?_) #[true, true, true, true, false, true, true, true, true, false, false, false] rfl rfl (any_of HT_.out (by kernel_rfl)) (fun _ _ _ h => h) (Or.inl ⟨by rfl, ?_⟩) ?_ ?_
         rotate_left
         ·intro w'
          go_simp
          with_reducible rfl
         rotate_left
         ·simp only [Act.put, List.setIfInBounds_toArray, List.set_cons_zero, List.set_cons_succ, i64_w, i32_w]
          rfl
         refine join_ (σ := Nat) 2 #[true, true, true, true, true, true, true, true, true, true, false, false] (fun s_ => [(45, .agg #[.int .i64 t166, .int .i64 t167, .int .i64 t168, .int .i64 t169]), (6, .pointer (some ⟨s_, 0, none⟩))]) (fun s_ w' => (w'.cell? ⟨gb163, 0, none⟩ = some (.int .i64 a0_0) ∧ w'.cell? ⟨gb163, 1, none⟩ = some (.int .i64 a0_1) ∧ w'.cell? ⟨gb163, 2, none⟩ = some (.int .i64 a0_2)) ∧ (w'.heap[gb163]? = some (.cells #[.int .i64 a0_0, .int .i64 a0_1, .int .i64 a0_2] 29 (0, 0))) ∧ (w'.heap[gb164]? = some (.cells #[.int .i64 0, .int .i64 0, .int .i64 0] 29 (0, 0))) ∧ (w'.heap[s_]? = some (.cells #[.int .i64 0, .int .i64 0, .int .i64 0, .int .i64 0] 100 (0, 0))) ∧ (w.heap.size ≤ s_) ∧ (w.heap.size ≤ s_) ∧ (gb163 ≠ s_) ∧ (s_ ≠ gb163) ∧ (gb164 ≠ s_) ∧ (s_ ≠ gb164) ∧ (Below w.heap.size w w')) ?_ ?_
         rotate_left
         ·intro hCont
          refine two_ (i := 4) (j := 9) (Ni := some 45) (Nj := some 6) #[true, true, true, true, true, true, true, true, true, false, false, false] #[true, true, true, true, false, true, true, true, true, true, false, false] rfl rfl rfl rfl (two_of HT_.out (by kernel_rfl)) (by decide) (by decide) (fun K hK => ?_) (fun K hK => ?_)
          ·skip
           refine goes_ Tryd.func60 (by kernel_rfl) rfl #[.int .i64 a0_0, .int .i64 a0_1] (by rfl) rfl rfl (by (try simp only [List.map_toArray, List.map_cons, List.map_nil]); first | done | rfl | (simp only [List.length_drop, List.length_take]; rfl)) ?_
           with_reducible refine (frac_loosen.calls kj20 a0_0 a0_1 t166 t167 t168 t169 _ (Glob.use hG (by decide) (by repeat (first | (with_reducible first | exact HB.out | exact Below.refl _ _ | apply below_alloc | apply pw_below_drewN | apply below_drew1) | exact HB.out | exact Below.refl _ _))) A38.out).mono ?_
           rintro e w43 ⟨rfl, hb⟩
           refine ⟨_, rfl, ?_⟩
           replace BK163 := kb BK163 hb
           replace BK164 := kb BK164 hb
           replace HB := sb HB hb
           (try clear hb)
           (try clear hb2)
           (try clear hk)
           (try clear hi)
           refine hK.out _ _ ⟨(blk_cell BK163.out 0).trans rfl, (blk_cell BK163.out 1).trans rfl, (blk_cell BK163.out 2).trans rfl⟩ (fun hHeld => ?_)
           clear hK K
           refine norm_ (a' := ?_) ?_ ?_
           rotate_left
           ·show Act.put _ (some 45) _ = _
            simp only [Act.put, List.setIfInBounds_toArray, List.set_cons_zero, List.set_cons_succ, i64_w, i32_w]
            rfl
           refine one_ (i := 9) (N := some 6) #[true, true, true, true, true, true, true, true, true, true, false, false] rfl rfl (one_of HT_.out (by kernel_rfl)) (by decide) (fun K hK => ?_)
           refine box_step ?hg (N := 6) ?hd (cs := #[.int .i64 0, .int .i64 0, .int .i64 0, .int .i64 0]) (t := 100) ?hr ?_; (case hd => rfl); (case hg => rfl); (case hr => first | (go_simp; done) | (go_simp; rfl))
           intro gb170 hg w44 hbox hb
           have n0_ := kb BK163 hb
           have n1_ := kb BK164 hb
           have n2_ := sb HB hb
           have n3_ := Aside0.mk (hbox)
           have n4_ := Aside0.mk ((by rw [hg]; exact (below_size (bl HB.out)) : w.heap.size ≤ gb170))
           have n5_ := Aside0.mk ((by rw [hg]; exact (below_size (bl HB.out)) : w.heap.size ≤ gb170))
           have n6_ := Aside0.mk ((by rw [hg]; exact Nat.ne_of_lt (blk_lt (kp BK163.out)) : gb163 ≠ gb170))
           have n7_ := Aside0.mk ((by rw [hg]; exact Nat.ne_of_gt (blk_lt (kp BK163.out)) : gb170 ≠ gb163))
           have n8_ := Aside0.mk ((by rw [hg]; exact Nat.ne_of_lt (blk_lt (kp BK164.out)) : gb164 ≠ gb170))
           have n9_ := Aside0.mk ((by rw [hg]; exact Nat.ne_of_gt (blk_lt (kp BK164.out)) : gb170 ≠ gb164))
           clear BK163
           clear BK164
           clear HB
           have BK163 := n0_
           have BK164 := n1_
           have HB := n2_
           have BK170 := n3_
           have GW170 := n4_
           have GE170 := n5_
           have NB163_170 := n6_
           have NB170_163 := n7_
           have NB164_170 := n8_
           have NB170_164 := n9_
           clear n0_ n1_ n2_ n3_ n4_ n5_ n6_ n7_ n8_ n9_
           clear hb hbox hg
           refine hK.out _ _ ⟨(blk_cell BK163.out 0).trans rfl, (blk_cell BK163.out 1).trans rfl, (blk_cell BK163.out 2).trans rfl⟩ (fun hHeld => ?_)
           clear hK K
           refine norm_ (a' := ?_) ?_ ?_
           rotate_left
           ·show Act.put _ (some 6) _ = _
            simp only [Act.put, List.setIfInBounds_toArray, List.set_cons_zero, List.set_cons_succ, i64_w, i32_w]
            rfl
           exact norm_ (by simp only [putAll, Act.put, List.setIfInBounds_toArray, List.set_cons_zero, List.set_cons_succ]) (hCont (gb170) _ ⟨hHeld, (kp BK163.out), (kp BK164.out), (kp BK170.out), GW170.out, GE170.out, NB163_170.out, NB170_163.out, NB164_170.out, NB170_164.out, (bl HB.out)⟩)
          ·skip
           refine box_step ?hg (N := 6) ?hd (cs := #[.int .i64 0, .int .i64 0, .int .i64 0, .int .i64 0]) (t := 100) ?hr ?_; (case hd => rfl); (case hg => rfl); (case hr => first | (go_simp; done) | (go_simp; rfl))
           intro gb170 hg w43 hbox hb
           have n0_ := kb BK163 hb
           have n1_ := kb BK164 hb
           have n2_ := sb HB hb
           have n3_ := Aside0.mk (hbox)
           have n4_ := Aside0.mk ((by rw [hg]; exact (below_size (bl HB.out)) : w.heap.size ≤ gb170))
           have n5_ := Aside0.mk ((by rw [hg]; exact (below_size (bl HB.out)) : w.heap.size ≤ gb170))
           have n6_ := Aside0.mk ((by rw [hg]; exact Nat.ne_of_lt (blk_lt (kp BK163.out)) : gb163 ≠ gb170))
           have n7_ := Aside0.mk ((by rw [hg]; exact Nat.ne_of_gt (blk_lt (kp BK163.out)) : gb170 ≠ gb163))
           have n8_ := Aside0.mk ((by rw [hg]; exact Nat.ne_of_lt (blk_lt (kp BK164.out)) : gb164 ≠ gb170))
           have n9_ := Aside0.mk ((by rw [hg]; exact Nat.ne_of_gt (blk_lt (kp BK164.out)) : gb170 ≠ gb164))
           clear BK163
           clear BK164
           clear HB
           have BK163 := n0_
           have BK164 := n1_
           have HB := n2_
           have BK170 := n3_
           have GW170 := n4_
           have GE170 := n5_
           have NB163_170 := n6_
           have NB170_163 := n7_
           have NB164_170 := n8_
           have NB170_164 := n9_
           clear n0_ n1_ n2_ n3_ n4_ n5_ n6_ n7_ n8_ n9_
           clear hb hbox hg
           refine hK.out _ _ ⟨(blk_cell BK163.out 0).trans rfl, (blk_cell BK163.out 1).trans rfl, (blk_cell BK163.out 2).trans rfl⟩ (fun hHeld => ?_)
           clear hK K
           refine norm_ (a' := ?_) ?_ ?_
           rotate_left
           ·show Act.put _ (some 6) _ = _
            simp only [Act.put, List.setIfInBounds_toArray, List.set_cons_zero, List.set_cons_succ, i64_w, i32_w]
            rfl
           refine one_ (i := 4) (N := some 45) #[true, true, true, true, true, true, true, true, true, true, false, false] rfl rfl (one_of HT_.out (by kernel_rfl)) (by decide) (fun K hK => ?_)
           refine goes_ Tryd.func60 (by kernel_rfl) rfl #[.int .i64 a0_0, .int .i64 a0_1] (by rfl) rfl rfl (by (try simp only [List.map_toArray, List.map_cons, List.map_nil]); first | done | rfl | (simp only [List.length_drop, List.length_take]; rfl)) ?_
           with_reducible refine (frac_loosen.calls kj20 a0_0 a0_1 t166 t167 t168 t169 _ (Glob.use hG (by decide) (by repeat (first | (with_reducible first | exact HB.out | exact Below.refl _ _ | apply below_alloc | apply pw_below_drewN | apply below_drew1) | exact HB.out | exact Below.refl _ _))) A38.out).mono ?_
           rintro e w44 ⟨rfl, hb⟩
           refine ⟨_, rfl, ?_⟩
           replace BK163 := kb BK163 hb
           replace BK164 := kb BK164 hb
           replace BK170 := kb BK170 hb
           replace HB := sb HB hb
           (try clear hb)
           (try clear hb2)
           (try clear hk)
           (try clear hi)
           refine hK.out _ _ ⟨(blk_cell BK163.out 0).trans rfl, (blk_cell BK163.out 1).trans rfl, (blk_cell BK163.out 2).trans rfl⟩ (fun hHeld => ?_)
           clear hK K
           refine norm_ (a' := ?_) ?_ ?_
           rotate_left
           ·show Act.put _ (some 45) _ = _
            simp only [Act.put, List.setIfInBounds_toArray, List.set_cons_zero, List.set_cons_succ, i64_w, i32_w]
            rfl
           exact norm_ (by simp only [putAll, Act.put, List.setIfInBounds_toArray, List.set_cons_zero, List.set_cons_succ]) (hCont (gb170) _ ⟨hHeld, (kp BK163.out), (kp BK164.out), (kp BK170.out), GW170.out, GE170.out, NB163_170.out, NB170_163.out, NB164_170.out, NB170_164.out, (bl HB.out)⟩)
         rintro gb170 w45 ⟨hS_, h0_, h1_, h2_, h3_, h4_, h5_, h6_, h7_, h8_, h9_⟩
         have BK170 : Aside0 (w45.heap[gb170]? = some (.cells #[.int .i64 0, .int .i64 0, .int .i64 0, .int .i64 0] 100 (0, 0))) := ⟨h2_⟩
         have GW170 : Aside0 (w.heap.size ≤ gb170) := ⟨h3_⟩
         have GE170 : Aside0 (w.heap.size ≤ gb170) := ⟨h4_⟩
         have NB163_170 : Aside0 (gb163 ≠ gb170) := ⟨h5_⟩
         have NB170_163 : Aside0 (gb170 ≠ gb163) := ⟨h6_⟩
         have NB164_170 : Aside0 (gb164 ≠ gb170) := ⟨h7_⟩
         have NB170_164 : Aside0 (gb170 ≠ gb164) := ⟨h8_⟩
         replace BK163 : Aside0 (w45.heap[gb163]? = some (.cells #[.int .i64 a0_0, .int .i64 a0_1, .int .i64 a0_2] 29 (0, 0))) := ⟨h0_⟩
         replace BK164 : Aside0 (w45.heap[gb164]? = some (.cells #[.int .i64 0, .int .i64 0, .int .i64 0] 29 (0, 0))) := ⟨h1_⟩
         replace HB : Aside0 (Below w.heap.size w w45) := ⟨h9_⟩
         clear h0_ h1_ h2_ h3_ h4_ h5_ h6_ h7_ h8_ h9_
         have hHeld : w45.cell? ⟨gb163, 0, none⟩ = some (.int .i64 a0_0) ∧ w45.cell? ⟨gb163, 1, none⟩ = some (.int .i64 a0_1) ∧ w45.cell? ⟨gb163, 2, none⟩ = some (.int .i64 a0_2) := hS_
         refine norm_ (a' := ?_) ?_ ?_
         rotate_left
         ·simp only [putAll, Act.put, List.setIfInBounds_toArray, List.set_cons_zero, List.set_cons_succ]
          rfl
         refine one_ (i := 10) (N := none) #[true, true, true, true, true, true, true, true, true, true, true, false] rfl rfl (one_of HT_.out (by kernel_rfl)) (by decide) (fun K hK => ?_)
         have hs46 : w45.cell? ⟨gb170, 0, none⟩ = some (.int .i64 0) := (blk_cell BK170.out 0).trans rfl
         have hfs46 := blk_frozen BK170.out 0
         have hns46_0 := NB163_170.out
         have hns46_1 := NB164_170.out
         have hms46_0 := NB170_163.out
         have hms46_1 := NB170_164.out
         have hs47 : w45.cell? ⟨gb170, 1, none⟩ = some (.int .i64 0) := (blk_cell BK170.out 1).trans rfl
         have hfs47 := blk_frozen BK170.out 1
         have hns47_0 := NB163_170.out
         have hns47_1 := NB164_170.out
         have hms47_0 := NB170_163.out
         have hms47_1 := NB170_164.out
         have hs48 : w45.cell? ⟨gb170, 2, none⟩ = some (.int .i64 0) := (blk_cell BK170.out 2).trans rfl
         have hfs48 := blk_frozen BK170.out 2
         have hns48_0 := NB163_170.out
         have hns48_1 := NB164_170.out
         have hms48_0 := NB170_163.out
         have hms48_1 := NB170_164.out
         have hs49 : w45.cell? ⟨gb170, 3, none⟩ = some (.int .i64 0) := (blk_cell BK170.out 3).trans rfl
         have hfs49 := blk_frozen BK170.out 3
         have hns49_0 := NB163_170.out
         have hns49_1 := NB164_170.out
         have hms49_0 := NB170_163.out
         have hms49_1 := NB170_164.out
         refine skip_ (w1 := ?_) (by rfl) rfl ?_ ?_
         rotate_left
         ·go_simp
          rfl
         refine hK.out _ _ ⟨((cell_far (p := ⟨gb170, _, none⟩) NB163_170.out _).trans (((cell_far (p := ⟨gb170, _, none⟩) NB163_170.out _).trans (((cell_far (p := ⟨gb170, _, none⟩) NB163_170.out _).trans (((cell_far (p := ⟨gb170, _, none⟩) NB163_170.out _).trans (hHeld.1)))))))), ((cell_far (p := ⟨gb170, _, none⟩) NB163_170.out _).trans (((cell_far (p := ⟨gb170, _, none⟩) NB163_170.out _).trans (((cell_far (p := ⟨gb170, _, none⟩) NB163_170.out _).trans (((cell_far (p := ⟨gb170, _, none⟩) NB163_170.out _).trans (hHeld.2.1)))))))), ((cell_far (p := ⟨gb170, _, none⟩) NB163_170.out _).trans (((cell_far (p := ⟨gb170, _, none⟩) NB163_170.out _).trans (((cell_far (p := ⟨gb170, _, none⟩) NB163_170.out _).trans (((cell_far (p := ⟨gb170, _, none⟩) NB163_170.out _).trans (hHeld.2.2))))))))⟩ (fun hHeld => ?_)
         clear hK K
         refine pure_ (i := 11) (N := some 7) (v := ?_) (a' := ?_) #[true, true, true, true, true, true, true, true, true, true, true, true] rfl rfl (any_of HT_.out (by kernel_rfl)) (fun _ _ _ h => h) (Or.inl ⟨by rfl, ?_⟩) ?_ ?_
         rotate_left
         ·intro w'
          go_simp
          with_reducible rfl
         rotate_left
         ·simp only [Act.put, List.setIfInBounds_toArray, List.set_cons_zero, List.set_cons_succ, i64_w, i32_w]
          rfl
         refine done_ (done_of HT_.out (by kernel_rfl)) ?_
         go_upto_if 51 with (fail)
         go_cut [1] (fun v1 wc => ∃ (kq : Nat) (x1_38 : Int) (x171000_38 : Int) (x171001_38 : Int) (x171002_38 : Int) (x171003_38 : Int), v1 = .int .i64 x1_38 ∧ Aside0 (frac_Pow.j2 kq x1_38 (wrap64 (a0_2 * a1)) x171000_38 x171001_38 x171002_38 x171003_38 = some (r1, r2, r3, r4)) ∧ Aside0 (kq ≤ kj20) ∧ Aside0 (wc.heap[gb163]? = some (.cells #[.int .i64 a0_0, .int .i64 a0_1, .int .i64 a0_2] 29 (0, 0))) ∧ Aside0 (wc.heap[gb164]? = some (.cells #[.int .i64 0, .int .i64 0, .int .i64 0] 29 (0, 0))) ∧ Aside0 (wc.heap[gb170]? = some (.cells #[.int .i64 x171000_38, .int .i64 x171001_38, .int .i64 x171002_38, .int .i64 x171003_38] 100 (0, 0))) ∧ Aside0 (Below w.heap.size w wc))
         case first =>
          have H := HC39.out
          clear HC39
          by_cases c50 : a1 < 0
          ·rw [if_pos c50] at H
           have c50b0 : decide (a1 < 0) = true := decide_eq_true c50
           clear c50
           (first | rw [c50b0] | (simp only [i64_w, i32_w]; rw [c50b0]) | skip)
           replace H := Option.bind_eq_some_iff.mp H
           obtain ⟨⟨t171, t172, t173, t174⟩, A510, H⟩ := H
           replace H : (frac_Pow.j2 kj20 (wrap64 (-a1)) (wrap64 (a0_2 * a1)) t171 t172 t173 t174) = some (r1, r2, r3, r4) := H
           have A51 := Aside0.mk A510
           clear A510
           have H' := Aside0.mk H
           clear H
           have hnb52 := NB170_163.out
           have hnc52 := NB163_170.out
           have hnb53 := NB170_164.out
           have hnc53 := NB164_170.out
           obtain ⟨hcz54_0, hcz54_1, hcz54_2, hcz54_3⟩ := hc4 BK170.out
           obtain ⟨hfz54_0, hfz54_1, hfz54_2, hfz54_3⟩ := hf4 BK170.out
           go_wp2_with (first | (go_at_call 63; (with_reducible refine (frac_loose_turned.calls kj20 t166 t167 t168 t169 t171 t172 t173 t174 _ A51.out).mono ?_); rintro e w55 ⟨rfl, hb⟩; replace BK163 := kb BK163 hb; replace BK164 := kb BK164 hb; replace BK170 := Aside0.mk (blk_below (kp (p4_3 (kp (p4_2 (kp (p4_1 (kp (p4_0 (kp BK170.out))))))))) hb); replace HB := sb HB hb; (try clear hb); (try clear hb2); (try clear hk); (try clear hi); obtain ⟨hcz56_0, hcz56_1, hcz56_2, hcz56_3⟩ := hc4 BK170.out; obtain ⟨hfz56_0, hfz56_1, hfz56_2, hfz56_3⟩ := hf4 BK170.out))
           go_meet
           case rel => exact ⟨_, (wrap64 (-a1)), (t171), (t172), (t173), (t174), (by first | rfl | (simp; done) | (simp [*]; done)), H', ⟨by have := HJ2.out; have := HJ20.out; first | omega | exact Nat.le_refl _⟩, ⟨kp BK163.out⟩, ⟨kp BK164.out⟩, ⟨kp (p4_3 (kp (p4_2 (kp (p4_1 (kp (p4_0 (kp BK170.out))))))))⟩, ⟨bl HB.out⟩⟩
          ·rw [if_neg c50] at H
           have c50b0 : decide (a1 < 0) = false := decide_eq_false c50
           clear c50
           (first | rw [c50b0] | (simp only [i64_w, i32_w]; rw [c50b0]) | skip)
           have H' := Aside0.mk H
           clear H
           go_wp2
           go_meet
           case rel => exact ⟨_, (a1), (t166), (t167), (t168), (t169), (by first | rfl | (simp; done) | (simp [*]; done)), H', ⟨by have := HJ2.out; have := HJ20.out; first | omega | exact Nat.le_refl _⟩, ⟨kp BK163.out⟩, ⟨kp BK164.out⟩, ⟨kp (p4_3 (kp (p4_2 (kp (p4_1 (kp (p4_0 (kp BK170.out))))))))⟩, ⟨bl HB.out⟩⟩
         case rest =>
          clear HC39
          try clear c1
          try clear c2
          try clear p2
          try clear c3
          try clear c4
          try clear c5
          try clear c6
          try clear p6
          try clear c7
          try clear c8
          try clear c8b0
          try clear c9
          try clear c12
          try clear c15
          try clear c18
          try clear c19
          try clear c22
          try clear c22b0
          try clear c22b1
          try clear c23
          try clear c25
          try clear c27
          try clear c28
          try clear c30
          try clear c30b0
          try clear c30b1
          try clear c32
          try clear c34
          try clear c34b0
          try clear c34b1
          try clear c35
          try clear c40
          try clear c47
          try clear c50
          try clear c50b0
          try clear c52
          try clear c53
          try clear hcz10_0 hcz10_1 hcz10_2
          try clear hcz13_0 hcz13_1 hcz13_2
          try clear hcz16_0 hcz16_1 hcz16_2
          try clear hcz20_0 hcz20_1 hcz20_2
          try clear hcz24_0 hcz24_1 hcz24_2
          try clear hcz26_0 hcz26_1 hcz26_2
          try clear hcz29_0 hcz29_1 hcz29_2
          try clear hcz33_0 hcz33_1 hcz33_2
          try clear hcz36_0 hcz36_1 hcz36_2
          try clear hcz37_0 hcz37_1 hcz37_2
          try clear hcz41_0 hcz41_1 hcz41_2
          try clear hcz54_0 hcz54_1 hcz54_2 hcz54_3
          try clear hcz56_0 hcz56_1 hcz56_2 hcz56_3
          try clear hfz10_0 hfz10_1 hfz10_2
          try clear hfz13_0 hfz13_1 hfz13_2
          try clear hfz16_0 hfz16_1 hfz16_2
          try clear hfz20_0 hfz20_1 hfz20_2
          try clear hfz24_0 hfz24_1 hfz24_2
          try clear hfz26_0 hfz26_1 hfz26_2
          try clear hfz29_0 hfz29_1 hfz29_2
          try clear hfz33_0 hfz33_1 hfz33_2
          try clear hfz36_0 hfz36_1 hfz36_2
          try clear hfz37_0 hfz37_1 hfz37_2
          try clear hfz41_0 hfz41_1 hfz41_2
          try clear hfz54_0 hfz54_1 hfz54_2 hfz54_3
          try clear hfz56_0 hfz56_1 hfz56_2 hfz56_3
          try clear p2
          obtain ⟨kq, x1_38, x171000_38, x171001_38, x171002_38, x171003_38, rfl, HA, HJ38, BK163, BK164, BK170, HB⟩ := hcut
          cases kq with
          | zero => exact absurd HA.out (by simp [frac_Pow.j2])
          | succ kj38 =>
           have H := HA.out
           clear HA
           simp only [frac_Pow.j2] at H
           have H' := Aside0.mk H
           clear H
           go_wp2_with (first | ((with_reducible refine gate_dst (N := 8) rfl ?_); refine box_event ?hg (N := 8) ?hd (cs := #[.int .i64 0, .int .i64 0, .int .i64 0, .int .i64 0]) (t := 100) ?hr ?_; (case hd => rfl); (case hg => rfl); (case hr => first | (go_simp; done) | (go_simp; rfl)); intro gb175 hg w57 hbox hb; have n0_ := kb BK163 hb; have n1_ := kb BK164 hb; have n2_ := kb BK170 hb; have n3_ := sb HB hb; have n4_ := Aside0.mk (hbox); have n5_ := Aside0.mk ((by rw [hg]; exact (below_size (bl HB.out)) : w.heap.size ≤ gb175)); have n6_ := Aside0.mk ((by rw [hg]; exact (below_size (bl HB.out)) : w.heap.size ≤ gb175)); have n7_ := Aside0.mk ((by rw [hg]; exact Nat.ne_of_lt (blk_lt (kp BK163.out)) : gb163 ≠ gb175)); have n8_ := Aside0.mk ((by rw [hg]; exact Nat.ne_of_gt (blk_lt (kp BK163.out)) : gb175 ≠ gb163)); have n9_ := Aside0.mk ((by rw [hg]; exact Nat.ne_of_lt (blk_lt (kp BK164.out)) : gb164 ≠ gb175)); have n10_ := Aside0.mk ((by rw [hg]; exact Nat.ne_of_gt (blk_lt (kp BK164.out)) : gb175 ≠ gb164)); have n11_ := Aside0.mk ((by rw [hg]; exact Nat.ne_of_lt (blk_lt (kp BK170.out)) : gb170 ≠ gb175)); have n12_ := Aside0.mk ((by rw [hg]; exact Nat.ne_of_gt (blk_lt (kp BK170.out)) : gb175 ≠ gb170)); clear BK163; clear BK164; clear BK170; clear HB; have BK163 := n0_; have BK164 := n1_; have BK170 := n2_; have HB := n3_; have BK175 := n4_; have GW175 := n5_; have GE175 := n6_; have NB163_175 := n7_; have NB175_163 := n8_; have NB164_175 := n9_; have NB175_164 := n10_; have NB170_175 := n11_; have NB175_170 := n12_; clear n0_ n1_ n2_ n3_ n4_ n5_ n6_ n7_ n8_ n9_ n10_ n11_ n12_; clear hb hbox hg; have hnb58 := NB175_163.out; have hnc58 := NB163_175.out; have hnb59 := NB175_164.out; have hnc59 := NB164_175.out; have hnb60 := NB175_170.out; have hnc60 := NB170_175.out; obtain ⟨hcz61_0, hcz61_1, hcz61_2, hcz61_3⟩ := hc4 BK175.out; obtain ⟨hfz61_0, hfz61_1, hfz61_2, hfz61_3⟩ := hf4 BK175.out))
           go_loopg [58] kj38 (fun kq v58 w' => ∃ (x58_4 : Int) (x165000_4 : Int) (x165001_4 : Int) (x165002_4 : Int) (x176000_4 : Int) (x176001_4 : Int) (x176002_4 : Int) (x176003_4 : Int), v58 = .int .i64 x58_4 ∧ Aside0 (frac_Pow.l0 kq (wrap64 (a0_2 * a1)) x1_38 x58_4 x171000_38 x171001_38 x171002_38 x171003_38 x176000_4 x176001_4 x176002_4 x176003_4 = some (r1, r2, r3, r4)) ∧ Aside0 (kq ≤ kj38) ∧ Aside0 (w'.heap[gb163]? = some (.cells #[.int .i64 a0_0, .int .i64 a0_1, .int .i64 a0_2] 29 (0, 0))) ∧ Aside0 (w'.heap[gb164]? = some (.cells #[.int .i64 x165000_4, .int .i64 x165001_4, .int .i64 x165002_4] 29 (0, 0))) ∧ Aside0 (w'.heap[gb170]? = some (.cells #[.int .i64 x171000_38, .int .i64 x171001_38, .int .i64 x171002_38, .int .i64 x171003_38] 100 (0, 0))) ∧ Aside0 (w'.heap[gb175]? = some (.cells #[.int .i64 x176000_4, .int .i64 x176001_4, .int .i64 x176002_4, .int .i64 x176003_4] 100 (0, 0))) ∧ Aside0 (Below w.heap.size w w'))
           case atStart => exact ⟨(0), (0), (0), (0), (1), (1), (0), (0), (by first | rfl | (simp; done) | (simp [*]; done)), H', ⟨Nat.le_refl _⟩, ⟨kp BK163.out⟩, ⟨kp BK164.out⟩, ⟨kp BK170.out⟩, ⟨kp (p4_3 (kp (p4_2 (kp (p4_1 (kp (p4_0 (kp BK175.out))))))))⟩, ⟨bl HB.out⟩⟩
           case round =>
            clear H'
            try clear c1
            try clear c2
            try clear p2
            try clear c3
            try clear c4
            try clear c5
            try clear c6
            try clear p6
            try clear c7
            try clear c8
            try clear c8b0
            try clear c9
            try clear c12
            try clear c15
            try clear c18
            try clear c19
            try clear c22
            try clear c22b0
            try clear c22b1
            try clear c23
            try clear c25
            try clear c27
            try clear c28
            try clear c30
            try clear c30b0
            try clear c30b1
            try clear c32
            try clear c34
            try clear c34b0
            try clear c34b1
            try clear c35
            try clear c40
            try clear c47
            try clear c50
            try clear c50b0
            try clear c52
            try clear c53
            try clear c58
            try clear c59
            try clear c60
            try clear hcz10_0 hcz10_1 hcz10_2
            try clear hcz13_0 hcz13_1 hcz13_2
            try clear hcz16_0 hcz16_1 hcz16_2
            try clear hcz20_0 hcz20_1 hcz20_2
            try clear hcz24_0 hcz24_1 hcz24_2
            try clear hcz26_0 hcz26_1 hcz26_2
            try clear hcz29_0 hcz29_1 hcz29_2
            try clear hcz33_0 hcz33_1 hcz33_2
            try clear hcz36_0 hcz36_1 hcz36_2
            try clear hcz37_0 hcz37_1 hcz37_2
            try clear hcz41_0 hcz41_1 hcz41_2
            try clear hcz54_0 hcz54_1 hcz54_2 hcz54_3
            try clear hcz56_0 hcz56_1 hcz56_2 hcz56_3
            try clear hcz61_0 hcz61_1 hcz61_2 hcz61_3
            try clear hfz10_0 hfz10_1 hfz10_2
            try clear hfz13_0 hfz13_1 hfz13_2
            try clear hfz16_0 hfz16_1 hfz16_2
            try clear hfz20_0 hfz20_1 hfz20_2
            try clear hfz24_0 hfz24_1 hfz24_2
            try clear hfz26_0 hfz26_1 hfz26_2
            try clear hfz29_0 hfz29_1 hfz29_2
            try clear hfz33_0 hfz33_1 hfz33_2
            try clear hfz36_0 hfz36_1 hfz36_2
            try clear hfz37_0 hfz37_1 hfz37_2
            try clear hfz41_0 hfz41_1 hfz41_2
            try clear hfz54_0 hfz54_1 hfz54_2 hfz54_3
            try clear hfz56_0 hfz56_1 hfz56_2 hfz56_3
            try clear hfz61_0 hfz61_1 hfz61_2 hfz61_3
            try clear p2
            try clear p6
            obtain ⟨x58_4, x165000_4, x165001_4, x165002_4, x176000_4, x176001_4, x176002_4, x176003_4, rfl, HA, HK4, BK163, BK164, BK170, BK175, HB⟩ := hrel
            cases gk with
            | zero => exact absurd HA.out (by simp [frac_Pow.l0])
            | succ k4 =>
             have H := HA.out
             clear HA
             simp only [frac_Pow.l0] at H
             by_cases c62 : x58_4 < x1_38
             ·rw [if_pos c62] at H
              have c62b0 : decide (x58_4 < x1_38) = true := decide_eq_true c62
              clear c62
              replace H := Option.bind_eq_some_iff.mp H
              obtain ⟨⟨t176, t177, t178, t179, t180⟩, A630, H⟩ := H
              replace H : (if t180 = true then (frac_Pow.l0 k4 (wrap64 (a0_2 * a1)) x1_38 (wrap64 (x58_4 + 1)) x171000_38 x171001_38 x171002_38 x171003_38 t176 t177 t178 t179) else (some (0, 0, 0, 10))) = some (r1, r2, r3, r4) := H
              have A63 := Aside0.mk A630
              clear A630
              by_cases c64 : t180 = true
              ·subst c64
               have H1 : (frac_Pow.l0 k4 (wrap64 (a0_2 * a1)) x1_38 (wrap64 (x58_4 + 1)) x171000_38 x171001_38 x171002_38 x171003_38 t176 t177 t178 t179) = some (r1, r2, r3, r4) := by rw [if_pos rfl] at H; exact H
               clear H
               have H := H1
               clear H1
               have H' := Aside0.mk H
               clear H
               have hnb65 := NB175_163.out
               have hnc65 := NB163_175.out
               have hnb66 := NB175_164.out
               have hnc66 := NB164_175.out
               have hnb67 := NB175_170.out
               have hnc67 := NB170_175.out
               obtain ⟨hcz68_0, hcz68_1, hcz68_2, hcz68_3⟩ := hc4 BK175.out
               obtain ⟨hfz68_0, hfz68_1, hfz68_2, hfz68_3⟩ := hf4 BK175.out
               have hnb69 := NB170_163.out
               have hnc69 := NB163_170.out
               have hnb70 := NB170_164.out
               have hnc70 := NB164_170.out
               obtain ⟨hcz71_0, hcz71_1, hcz71_2, hcz71_3⟩ := hc4 BK170.out
               obtain ⟨hfz71_0, hfz71_1, hfz71_2, hfz71_3⟩ := hf4 BK170.out
               go_wp2_with (first | (go_at_call 67; (with_reducible refine (frac_loose_times.calls k4 x176000_4 x176001_4 x176002_4 x176003_4 x171000_38 x171001_38 x171002_38 x171003_38 t176 t177 t178 t179 true _ A63.out).mono ?_); rintro e w72 ⟨rfl, hb⟩; replace BK163 := kb BK163 hb; replace BK164 := kb BK164 hb; replace BK170 := kb BK170 hb; replace BK175 := kb BK175 hb; replace HB := sb HB hb; (try clear hb); (try clear hb2); (try clear hk); (try clear hi); obtain ⟨hcz73_0, hcz73_1, hcz73_2, hcz73_3⟩ := hc4 BK175.out; obtain ⟨hfz73_0, hfz73_1, hfz73_2, hfz73_3⟩ := hf4 BK175.out))
               go_roundg k4
               case measure => have := HJ2.out; have := HJ20.out; have := HJ38.out; have := HK4.out; omega
               case rel => exact ⟨(wrap64 (x58_4 + 1)), (x165000_4), (x165001_4), (x165002_4), (t176), (t177), (t178), (t179), (by first | rfl | (simp; done) | (simp [*]; done)), H', ⟨by have := HJ2.out; have := HJ20.out; have := HJ38.out; have := HK4.out; omega⟩, ⟨kp BK163.out⟩, ⟨kp BK164.out⟩, ⟨kp BK170.out⟩, ⟨kp (p4_3 (kp (p4_2 (kp (p4_1 (kp (p4_0 (kp BK175.out))))))))⟩, ⟨bl HB.out⟩⟩
              ·replace c64 := Bool.eq_false_iff.mpr c64
               subst c64
               have H1 : (some (0, 0, 0, 10)) = some (r1, r2, r3, r4) := by rw [if_neg (show ¬ (false = true) by decide)] at H; exact H
               clear H
               have H := H1
               clear H1
               simp only [Option.some.injEq, Prod.mk.injEq] at H
               obtain ⟨rfl, rfl, rfl, rfl⟩ := H
               have hnb74 := NB175_163.out
               have hnc74 := NB163_175.out
               have hnb75 := NB175_164.out
               have hnc75 := NB164_175.out
               have hnb76 := NB175_170.out
               have hnc76 := NB170_175.out
               obtain ⟨hcz77_0, hcz77_1, hcz77_2, hcz77_3⟩ := hc4 BK175.out
               obtain ⟨hfz77_0, hfz77_1, hfz77_2, hfz77_3⟩ := hf4 BK175.out
               have hnb78 := NB170_163.out
               have hnc78 := NB163_170.out
               have hnb79 := NB170_164.out
               have hnc79 := NB164_170.out
               obtain ⟨hcz80_0, hcz80_1, hcz80_2, hcz80_3⟩ := hc4 BK170.out
               obtain ⟨hfz80_0, hfz80_1, hfz80_2, hfz80_3⟩ := hf4 BK170.out
               go_wp2_with (first | (go_at_call 67; (with_reducible refine (frac_loose_times.calls k4 x176000_4 x176001_4 x176002_4 x176003_4 x171000_38 x171001_38 x171002_38 x171003_38 t176 t177 t178 t179 false _ A63.out).mono ?_); rintro e w81 ⟨rfl, hb⟩; replace BK163 := kb BK163 hb; replace BK164 := kb BK164 hb; replace BK170 := kb BK170 hb; replace BK175 := kb BK175 hb; replace HB := sb HB hb; (try clear hb); (try clear hb2); (try clear hk); (try clear hi); obtain ⟨hcz82_0, hcz82_1, hcz82_2, hcz82_3⟩ := hc4 BK175.out; obtain ⟨hfz82_0, hfz82_1, hfz82_2, hfz82_3⟩ := hf4 BK175.out; have hnb83 := NB164_163.out; have hnc83 := NB163_164.out; obtain ⟨hcz84_0, hcz84_1, hcz84_2⟩ := hc3 BK164.out; obtain ⟨hfz84_0, hfz84_1, hfz84_2⟩ := hf3 BK164.out))
               refine bodyPost_ret (results_ct rfl _ _ gb164 29 #[.int .i64 0, .int .i64 0, .int .i64 0] (0, 0) _ rfl (kp (p3_2 (kp (p3_1 (kp (p3_0 (kp BK164.out))))))) Tryd.underlying29 rfl (by kernel_rfl)) rfl ?_
               exact ⟨by first | rfl | (simp [errW_none, errW_some] <;> rfl) | (simp [*, errW_none, errW_some] <;> rfl), bl HB.out⟩
             ·rw [if_neg c62] at H
              have c62b0 : decide (x58_4 < x1_38) = false := decide_eq_false c62
              clear c62
              replace H := Option.bind_eq_some_iff.mp H
              obtain ⟨⟨t181, t182, t183, t184⟩, A850, H⟩ := H
              replace H : (some (t181, t182, t183, t184)) = some (r1, r2, r3, r4) := H
              have A85 := Aside0.mk A850
              clear A850
              simp only [Option.some.injEq, Prod.mk.injEq] at H
              obtain ⟨rfl, rfl, rfl, rfl⟩ := H
              have hnb86 := NB175_163.out
              have hnc86 := NB163_175.out
              have hnb87 := NB175_164.out
              have hnc87 := NB164_175.out
              have hnb88 := NB175_170.out
              have hnc88 := NB170_175.out
              obtain ⟨hcz89_0, hcz89_1, hcz89_2, hcz89_3⟩ := hc4 BK175.out
              obtain ⟨hfz89_0, hfz89_1, hfz89_2, hfz89_3⟩ := hf4 BK175.out
              go_wp2_with (first | (go_at_call 66; (with_reducible refine (frac_loose_form.calls k4 x176000_4 x176001_4 x176002_4 x176003_4 (wrap64 (a0_2 * a1)) t181 t182 t183 t184 _ (Glob.use hG (by decide) (bl HB.out)) A85.out).mono ?_); rintro e w90 ⟨rfl, hb⟩; replace BK163 := kb BK163 hb; replace BK164 := kb BK164 hb; replace BK170 := kb BK170 hb; replace BK175 := kb BK175 hb; replace HB := sb HB hb; (try clear hb); (try clear hb2); (try clear hk); (try clear hi); have hnb91 := NB164_163.out; have hnc91 := NB163_164.out; have hnb92 := NB164_170.out; have hnc92 := NB170_164.out; obtain ⟨hcz93_0, hcz93_1, hcz93_2⟩ := hc3 BK164.out; obtain ⟨hfz93_0, hfz93_1, hfz93_2⟩ := hf3 BK164.out))
              refine bodyPost_ret (results_ct rfl _ _ gb164 29 #[.int .i64 t181, .int .i64 t182, .int .i64 t183] (0, 0) _ rfl (kp (p3_2 (kp (p3_1 (kp (p3_0 (kp BK164.out))))))) Tryd.underlying29 rfl (by kernel_rfl)) rfl ?_
              exact ⟨by first | rfl | (simp [errW_none, errW_some] <;> rfl) | (simp [*, errW_none, errW_some] <;> rfl), bl HB.out⟩

end Go.Proofs.YthfibffgmoblaaaDoor.PD

