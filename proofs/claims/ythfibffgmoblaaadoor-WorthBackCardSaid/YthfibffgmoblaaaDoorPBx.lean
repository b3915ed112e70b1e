/- Printed by a program of this session (wip/tools/prt.py) out of the translation: plain functions, and that the calls come to just them. No conditions beyond those that stand in each theorem. -/
import Derived.Test.YthfibffgmoblaaaDoorWw
import Derived.Test.YthfibffgmoblaaaDoorSq
import Derived.Test.YthfibffgmoblaaaDoorProg
import Derived.Below
import Derived.Deep.Draws
import Derived.Deep.AppendLies
import Derived.Maps.AppendAt
import Derived.OwnWalk
import Derived.Laws.BytesArg
import Derived.Laws.MakeOwn
import Derived.Laws.OwnMore
import Derived.Deep.OwnRows
import Derived.Tactics
import Derived.Lib.ConvBytes
import Derived.Laws.Slices
import Derived.WalkKit
import Derived.KernelRfl
import Derived.RowKit3
import Derived.Deep.LoopGhost
import Derived.Deep.QuietTactic
import Derived.BigQuiet
import Derived.WideLaws
import Derived.Deep.DeepCutAuto
import Derived.Deep.CutBlock
import Derived.Deep.RegionHeld3
import Derived.Laws.Rows
import Derived.Lib.AppendStr
import Derived.ArgAppend
import Derived.Laws.IdiomCopy
import Derived.OrdersHeld
import Derived.Laws.BitsLemmas
import Derived.RowKit
import Derived.Test.YthfibffgmoblaaaDoorGlob
namespace Go.Proofs.YthfibffgmoblaaaDoor.PB
open Go.Proofs.YthfibffgmoblaaaDoor.Sq Go.RowKit Go.Proofs.YthfibffgmoblaaaDoorW.PrintWords Go.Proofs.YthfibffgmoblaaaDoorW.PrintLast Go.Proofs.YthfibffgmoblaaaDoorW.PrintMore
attribute [local go_sem] max2_int min2_int max_two min_two max_three min_three max_four min_four   -- for this text's walks alone
set_option linter.unusedVariables false
set_option linter.unusedSimpArgs false

theorem arr_cell {w : World} {g : Nat} {e : Int → Value} (o z : Nat) (l : List Int) (j : Int) (h : ∀ i, i < l.length → w.cell? ⟨g, o + i * z, none⟩ = some (e (l.getD i 0))) (h0 : 0 ≤ j) (hj : j < (l.length : Int)) : w.cell? ⟨g, o + j.toNat * z, none⟩ = some (e (rd l j)) := h j.toNat (by omega)
theorem arr_cell1 {w : World} {g : Nat} {e : Int → Value} (l : List Int) (j : Int) (h : ∀ i, i < l.length → w.cell? ⟨g, i, none⟩ = some (e (l.getD i 0))) (h0 : 0 ≤ j) (hj : j < (l.length : Int)) : w.cell? ⟨g, j.toNat, none⟩ = some (e (rd l j)) := h j.toNat (by omega)
theorem arr_cell2 {w : World} {g : Nat} {e : Int → Value} (z : Nat) (l : List Int) (j : Int) (h : ∀ i, i < l.length → w.cell? ⟨g, i * z, none⟩ = some (e (l.getD i 0))) (h0 : 0 ≤ j) (hj : j < (l.length : Int)) : w.cell? ⟨g, j.toNat * z, none⟩ = some (e (rd l j)) := h j.toNat (by omega)


def errW : Option Int → Value
 | none => .nilIface
 | some c => .iface 0 (.int .i64 c)
theorem errW_none : errW none = .nilIface := rfl
theorem errW_some (c : Int) : errW (some c) = .iface 0 (.int .i64 c) := rfl

theorem info2 : (Tryd.prog.info? 2).map (fun i => (i.zero, i.size, i.bytes)) = some (some (.int .i64 0), 1, 8) := by kernel_rfl
-- the values' own types

end Go.Proofs.YthfibffgmoblaaaDoor.PB

namespace Go.Proofs.YthfibffgmoblaaaDoor.PB
open Go.Proofs.YthfibffgmoblaaaDoor.Sq Go.RowKit Go.Proofs.YthfibffgmoblaaaDoorW.PrintWords Go.Proofs.YthfibffgmoblaaaDoorW.PrintLast Go.Proofs.YthfibffgmoblaaaDoorW.PrintMore
attribute [local go_sem] max2_int min2_int max_two min_two max_three min_three max_four min_four   -- for this text's walks alone
set_option linter.unusedVariables false
set_option linter.unusedSimpArgs false

theorem eqA29 (d : Nat) (w : World) (x0 y0 : Int) (x1 y1 : Int) (x2 y2 : Int) :
  (Op.equalIn (d + 2) 29 (.agg #[.int .i64 x0, .int .i64 x1, .int .i64 x2]) (.agg #[.int .i64 y0, .int .i64 y1, .int .i64 y2])).run Tryd.prog w = .ok (x0 == y0 && (x1 == y1 && (x2 == y2))) w := by
 refine eqA_of Tryd.underlying29 (by kernel_rfl) ?_
 refine eqf_cons (by rfl) (by go_simp; rfl) (by go_simp; rfl) (by go_simp) ?_
 refine eqf_cons (by rfl) (by go_simp; rfl) (by go_simp; rfl) (by go_simp) ?_
 exact eqf_last (by rfl) (by go_simp; rfl) (by go_simp; rfl) (by go_simp)
end Go.Proofs.YthfibffgmoblaaaDoor.PB

namespace Go.Proofs.YthfibffgmoblaaaDoor.PB
open Go.Proofs.YthfibffgmoblaaaDoor.Sq Go.RowKit Go.Proofs.YthfibffgmoblaaaDoorW.PrintWords Go.Proofs.YthfibffgmoblaaaDoorW.PrintLast Go.Proofs.YthfibffgmoblaaaDoorW.PrintMore
attribute [local go_sem] max2_int min2_int max_two min_two max_three min_three max_four min_four   -- for this text's walks alone
set_option linter.unusedVariables false
set_option linter.unusedSimpArgs false

attribute [local go_sem high] eqA29
/-! ### whole_Fits: function 65 -/
def whole_Fits.f (a0 : Int) : Option (Bool) := some (decide (a0 ≥ (-9223372036854775807)))
set_option maxHeartbeats 8000000 in
set_option maxRecDepth 100000 in
theorem whole_Fits.calls (a0 : Int) (r : Bool) (w : World) (h : whole_Fits.f a0 = some r) :
  Calls Tryd.prog 65 #[.int .i64 a0] w fun e w' => e = .returned (.bool r) ∧ Drawn0 w w' := by
 have H : (some (decide (a0 ≥ (-9223372036854775807)))) = some r := h
 clear h
 obtain rfl := Option.some.inj H
 go_enter Tryd.func65, Tryd.ntmps65
 go_wp2
 go_ret
 exact ⟨by first | rfl | (simp; done) | (simp [*]; done), by repeat (first | exact Drawn0.refl _ | apply Drawn0.step)⟩

/-! ### whole_Split: function 84 -/
mutual
def whole_Split.j0 : Nat → Int → Int → Bool → Option (Int × Int)
 | 0, _, _, _ => none
 | k + 1, x0, x1, x17 => if x17 = true then (some (0, x0)) else (whole_Split.l0 k x0 x1 0)
def whole_Split.l0 : Nat → Int → Int → Int → Option (Int × Int)
 | 0, _, _, _ => none
 | k + 1, x0, x1, x6 => if x1 = 0 then (none) else (if (Int.tmod x0 x1) = 0 then (whole_Split.l0 k (wrap64 (Int.tdiv x0 x1)) x1 (wrap64 (x6 + 1))) else (some (x6, x0)))
end
def whole_Split.f (k : Nat) (a0 : Int) (a1 : Int) : Option (Int × Int) := if a0 = 0 then (whole_Split.j0 k a0 a1 true) else (if a1 < 2 then (whole_Split.j0 k a0 a1 true) else ((whole_Fits.f a0).bind fun t101 => (whole_Split.j0 k a0 a1 (!t101))))
theorem whole_Split.mono_l : ∀ k, (∀ y0 y1 y2, LeO (whole_Split.j0 k y0 y1 y2) (whole_Split.j0 (k + 1) y0 y1 y2)) ∧ (∀ y0 y1 y2, LeO (whole_Split.l0 k y0 y1 y2) (whole_Split.l0 (k + 1) y0 y1 y2))
 | 0 => ⟨fun _ _ _ r h => by simp [whole_Split.j0] at h, fun _ _ _ r h => by simp [whole_Split.l0] at h⟩
 | k + 1 => by
  obtain ⟨ih0, ih1⟩ := whole_Split.mono_l k
  refine ⟨?_, ?_⟩
  ·intro y0 y1 y2
   unfold whole_Split.j0
   repeat' first
   | (with_reducible exact ih0 _ _ _)
   | (with_reducible exact ih1 _ _ _)
   | (with_reducible exact LeO.refl _)
   | (with_reducible exact LeO.none _)
   | (with_reducible refine LeO.ite ?_ ?_)
   | (with_reducible refine LeO.bind ?_ (fun _ => ?_))
   | exact ih0 _ _ _
   | exact ih1 _ _ _
   | exact LeO.none _
   | refine LeO.ite ?_ ?_
   | refine LeO.bind ?_ (fun _ => ?_)
  ·intro y0 y1 y2
   unfold whole_Split.l0
   repeat' first
   | (with_reducible exact ih0 _ _ _)
   | (with_reducible exact ih1 _ _ _)
   | (with_reducible exact LeO.refl _)
   | (with_reducible exact LeO.none _)
   | (with_reducible refine LeO.ite ?_ ?_)
   | (with_reducible refine LeO.bind ?_ (fun _ => ?_))
   | exact ih0 _ _ _
   | exact ih1 _ _ _
   | exact LeO.none _
   | refine LeO.ite ?_ ?_
   | refine LeO.bind ?_ (fun _ => ?_)
theorem whole_Split.mono : ∀ a0 a1 k, LeO (whole_Split.f k a0 a1) (whole_Split.f (k + 1) a0 a1) := by
 intro a0 a1 k
 obtain ⟨ih0, ih1⟩ := whole_Split.mono_l k
 unfold whole_Split.f
 repeat' first
   | (with_reducible exact ih0 _ _ _)
   | (with_reducible exact ih1 _ _ _)
   | (with_reducible exact LeO.refl _)
   | (with_reducible exact LeO.none _)
   | (with_reducible refine LeO.ite ?_ ?_)
   | (with_reducible refine LeO.bind ?_ (fun _ => ?_))
   | exact ih0 _ _ _
   | exact ih1 _ _ _
   | exact LeO.none _
   | refine LeO.ite ?_ ?_
   | refine LeO.bind ?_ (fun _ => ?_)
set_option maxHeartbeats 8000000 in
set_option maxRecDepth 100000 in
theorem whole_Split.calls (k : Nat) (a0 : Int) (a1 : Int) (r1 : Int) (r2 : Int) (w : World) (h : whole_Split.f k a0 a1 = some (r1, r2)) :
  Calls Tryd.prog 84 #[.int .i64 a0, .int .i64 a1] w fun e w' => e = .returned (.tuple #[.int .i64 r1, .int .i64 r2]) ∧ Drawn0 w w' := by
 have H : (if a0 = 0 then (whole_Split.j0 k a0 a1 true) else (if a1 < 2 then (whole_Split.j0 k a0 a1 true) else ((whole_Fits.f a0).bind fun t101 => (whole_Split.j0 k a0 a1 (!t101))))) = some (r1, r2) := h
 clear h
 have HC3 := Aside0.mk H
 clear H
 go_enter Tryd.func84, Tryd.ntmps84
 go_upto_region 1 with (fail)
 go_cut [17] (fun v17 wc => ∃ (kq : Nat) (x17_2 : Bool), v17 = .bool x17_2 ∧ Aside0 (whole_Split.j0 kq a0 a1 x17_2 = some (r1, r2)) ∧ Aside0 (kq ≤ k) ∧ Drawn0 w wc)
 case first =>
  have H := HC3.out
  clear HC3
  by_cases c4 : a0 = 0
  ·rw [if_pos c4] at H
   have c4b0 : (a0 == 0) = true := beq_iff_eq.mpr c4
   have c4b1 : (a0 != 0) = false := bne_eq_false_iff_eq.mpr c4
   clear c4
   (first | rw [c4b0] | (simp only [i64_w, i32_w]; rw [c4b0]) | skip)
   have H' := Aside0.mk H
   clear H
   go_wp2
   go_meet
   case rel => exact ⟨_, (true), (by first | rfl | (simp; done) | (simp [*]; done)), H', ⟨by first | omega | exact Nat.le_refl _⟩, by repeat (first | exact Drawn0.refl _ | apply Drawn0.step)⟩
  ·rw [if_neg c4] at H
   have c4b0 : (a0 == 0) = false := beq_eq_false_iff_ne.mpr c4
   have c4b1 : (a0 != 0) = true := bne_iff_ne.mpr c4
   (first | rw [c4b0] | (simp only [i64_w, i32_w]; rw [c4b0]) | skip)
   by_cases c5 : a1 < 2
   ·rw [if_pos c5] at H
    have c5b0 : decide (a1 < 2) = true := decide_eq_true c5
    clear c5
    have H' := Aside0.mk H
    clear H
    go_wp2
    go_meet
    case rel => exact ⟨_, (true), (by first | rfl | (simp; done) | (simp [*]; done)), H', ⟨by first | omega | exact Nat.le_refl _⟩, by repeat (first | exact Drawn0.refl _ | apply Drawn0.step)⟩
   ·rw [if_neg c5] at H
    have c5b0 : decide (a1 < 2) = false := decide_eq_false c5
    clear c5
    replace H := Option.bind_eq_some_iff.mp H
    obtain ⟨t101, A60, H⟩ := H
    replace H : (whole_Split.j0 k a0 a1 (!t101)) = some (r1, r2) := H
    have A6 := Aside0.mk A60
    clear A60
    have H' := Aside0.mk H
    clear H
    go_wp2_with (first | (go_at_call 65; (with_reducible refine (whole_Fits.calls a0 t101 _ A6.out).mono ?_); rintro e w' ⟨rfl, ⟨nd, rfl⟩⟩))
    go_meet
    case rel => exact ⟨_, (!t101), (by first | rfl | (simp; done) | (simp [*]; done)), H', ⟨by first | omega | exact Nat.le_refl _⟩, by repeat (first | exact Drawn0.refl _ | apply Drawn0.step)⟩
 case rest =>
  clear HC3
  try clear p2
  try clear c4
  try clear c4b0
  try clear c4b1
  try clear c5
  try clear c5b0
  obtain ⟨kq, x17_2, rfl, HA, HJ2, ⟨mc2, rfl⟩⟩ := hcut
  cases kq with
  | zero => exact absurd HA.out (by simp [whole_Split.j0])
  | succ kj2 =>
   have H := HA.out
   clear HA
   simp only [whole_Split.j0] at H
   by_cases c7 : x17_2 = true
   ·subst c7
    have H1 : (some (0, a0)) = some (r1, r2) := by rw [if_pos rfl] at H; exact H
    clear H
    have H := H1
    clear H1
    simp only [Option.some.injEq, Prod.mk.injEq] at H
    obtain ⟨rfl, rfl⟩ := H
    go_wp2
    go_ret2
    exact ⟨by first | rfl | (simp; done) | (simp [*]; done), by repeat (first | exact Drawn0.refl _ | apply Drawn0.step)⟩
   ·replace c7 := Bool.eq_false_iff.mpr c7
    subst c7
    have H1 : (whole_Split.l0 kj2 a0 a1 0) = some (r1, r2) := by rw [if_neg (show ¬ (false = true) by decide)] at H; exact H
    clear H
    have H := H1
    clear H1
    have H' := Aside0.mk H
    clear H
    go_wp2
    go_loopg [0, 6] kj2 (fun kq v0 v6 w' => ∃ (x0_2 : Int) (x6_2 : Int), v0 = .int .i64 x0_2 ∧ v6 = .int .i64 x6_2 ∧ Aside0 (whole_Split.l0 kq x0_2 a1 x6_2 = some (r1, r2)) ∧ Aside0 (kq ≤ kj2) ∧ Drawn0 w w')
    case atStart => exact ⟨(a0), (0), (by first | rfl | (simp; done) | (simp [*]; done)), (by first | rfl | (simp; done) | (simp [*]; done)), H', ⟨Nat.le_refl _⟩, by repeat (first | exact Drawn0.refl _ | apply Drawn0.step)⟩
    case round =>
     clear H'
     try clear c2
     try clear p2
     try clear c4
     try clear c4b0
     try clear c4b1
     try clear c5
     try clear c5b0
     try clear c7
     try clear p2
     obtain ⟨x0_2, x6_2, rfl, rfl, HA, HK2, ⟨m2, rfl⟩⟩ := hrel
     cases gk with
     | zero => exact absurd HA.out (by simp [whole_Split.l0])
     | succ k2 =>
      have H := HA.out
      clear HA
      simp only [whole_Split.l0] at H
      by_cases c8 : a1 = 0
      ·rw [if_pos c8] at H
       exact absurd H (by simp)
      ·rw [if_neg c8] at H
       have c8b0 : (a1 == 0) = false := beq_eq_false_iff_ne.mpr c8
       have c8b1 : (a1 != 0) = true := bne_iff_ne.mpr c8
       by_cases c9 : (Int.tmod x0_2 a1) = 0
       ·rw [if_pos c9] at H
        have c9b0 : ((Int.tmod x0_2 a1) == 0) = true := beq_iff_eq.mpr c9
        have c9b1 : ((Int.tmod x0_2 a1) != 0) = false := bne_eq_false_iff_eq.mpr c9
        clear c9
        have H' := Aside0.mk H
        clear H
        go_wp2
        go_roundg k2
        case measure => have := HJ2.out; have := HK2.out; omega
        case rel => exact ⟨(wrap64 (Int.tdiv x0_2 a1)), (wrap64 (x6_2 + 1)), (by first | rfl | (simp; done) | (simp [*]; done)), (by first | rfl | (simp; done) | (simp [*]; done)), H', ⟨by have := HJ2.out; have := HK2.out; omega⟩, by repeat (first | exact Drawn0.refl _ | apply Drawn0.step)⟩
       ·rw [if_neg c9] at H
        have c9b0 : ((Int.tmod x0_2 a1) == 0) = false := beq_eq_false_iff_ne.mpr c9
        have c9b1 : ((Int.tmod x0_2 a1) != 0) = true := bne_iff_ne.mpr c9
        simp only [Option.some.injEq, Prod.mk.injEq] at H
        obtain ⟨rfl, rfl⟩ := H
        go_wp2
        go_ret2
        exact ⟨by first | rfl | (simp; done) | (simp [*]; done), by repeat (first | exact Drawn0.refl _ | apply Drawn0.step)⟩

/-! ### whole_fit: function 90 -/
def whole_fit.l0 : Nat → List Int → Int → Int → Option (Bool)
 | 0, _, _, _ => none
 | k + 1, x5, x6, x7 => if x7 < x6 then (if 0 ≤ x7 then (if x7 < (x5.length : Int) then ((whole_Fits.f (rd x5 x7)).bind fun t103 => (if t103 = true then (whole_fit.l0 k x5 x6 (wrap64 (x7 + 1))) else (some false))) else (none)) else (none)) else (some true)
def whole_fit.f (k : Nat) (l0 : List Int) : Option (Bool) := whole_fit.l0 k l0 (l0.length : Int) 0
theorem whole_fit.mono_l : ∀ k, (∀ y0 y1 y2, LeO (whole_fit.l0 k y0 y1 y2) (whole_fit.l0 (k + 1) y0 y1 y2))
 | 0 => fun _ _ _ r h => by simp [whole_fit.l0] at h
 | k + 1 => by
  have ih0 := whole_fit.mono_l k
  ·intro y0 y1 y2
   unfold whole_fit.l0
   repeat' first
   | (with_reducible exact ih0 _ _ _)
   | (with_reducible exact LeO.refl _)
   | (with_reducible exact LeO.none _)
   | (with_reducible refine LeO.ite ?_ ?_)
   | (with_reducible refine LeO.bind ?_ (fun _ => ?_))
   | exact ih0 _ _ _
   | exact LeO.none _
   | refine LeO.ite ?_ ?_
   | refine LeO.bind ?_ (fun _ => ?_)
theorem whole_fit.mono : ∀ a0 k, LeO (whole_fit.f k a0) (whole_fit.f (k + 1) a0) := by
 intro a0 k
 have ih0 := whole_fit.mono_l k
 unfold whole_fit.f
 repeat' first
   | (with_reducible exact ih0 _ _ _)
   | (with_reducible exact LeO.refl _)
   | (with_reducible exact LeO.none _)
   | (with_reducible refine LeO.ite ?_ ?_)
   | (with_reducible refine LeO.bind ?_ (fun _ => ?_))
   | exact ih0 _ _ _
   | exact LeO.none _
   | refine LeO.ite ?_ ?_
   | refine LeO.bind ?_ (fun _ => ?_)
set_option maxHeartbeats 8000000 in
set_option maxRecDepth 100000 in
theorem whole_fit.calls (k : Nat) (A0 : Option Addr) (c0 : Nat) (l0 : List Int) (r : Bool) (w : World) (hr0 : Kd.C (Kd.int .i64) w A0 l0.length l0) (hc0 : l0.length ≤ c0) (h : whole_fit.f k l0 = some r) :
  Calls Tryd.prog 90 #[.slice A0 l0.length c0] w fun e w' => e = .returned (.bool r) ∧ Drawn0 w w' := by
 have HR0 := Aside0.mk hr0
 have HC0 := Aside0.mk hc0
 clear hr0 hc0
 have H : (whole_fit.l0 k l0 (l0.length : Int) 0) = some r := h
 clear h
 have H' := Aside0.mk H
 clear H
 go_enter Tryd.func90, Tryd.ntmps90
 go_wp2
 go_loopg [7] k (fun kq v7 w' => ∃ (x7_1 : Int), v7 = .int .i64 x7_1 ∧ Aside0 (whole_fit.l0 kq l0 (l0.length : Int) x7_1 = some r) ∧ Aside0 (kq ≤ k) ∧ Drawn0 w w')
 case atStart => exact ⟨(0), (by first | rfl | (simp; done) | (simp [*]; done)), H', ⟨Nat.le_refl _⟩, by repeat (first | exact Drawn0.refl _ | apply Drawn0.step)⟩
 case round =>
  clear H'
  obtain ⟨x7_1, rfl, HA, HK1, ⟨m1, rfl⟩⟩ := hrel
  cases gk with
  | zero => exact absurd HA.out (by simp [whole_fit.l0])
  | succ k1 =>
   have H := HA.out
   clear HA
   simp only [whole_fit.l0] at H
   by_cases c2 : x7_1 < (l0.length : Int)
   ·rw [if_pos c2] at H
    have c2b0 : decide (x7_1 < (l0.length : Int)) = true := decide_eq_true c2
    clear c2
    by_cases c3 : 0 ≤ x7_1
    ·rw [if_pos c3] at H
     have c3b0 : decide (0 ≤ x7_1) = true := decide_eq_true c3
     clear c3
     by_cases c4 : x7_1 < (l0.length : Int)
     ·rw [if_pos c4] at H
      have c4b0 : decide (x7_1 < (l0.length : Int)) = true := decide_eq_true c4
      clear c4
      replace H := Option.bind_eq_some_iff.mp H
      obtain ⟨t103, A50, H⟩ := H
      replace H : (if t103 = true then (whole_fit.l0 k1 l0 (l0.length : Int) (wrap64 (x7_1 + 1))) else (some false)) = some r := H
      have A5 := Aside0.mk A50
      clear A50
      by_cases c6 : t103 = true
      ·subst c6
       have H1 : (whole_fit.l0 k1 l0 (l0.length : Int) (wrap64 (x7_1 + 1))) = some r := by rw [if_pos rfl] at H; exact H
       clear H
       have H := H1
       clear H1
       have H' := Aside0.mk H
       clear H
       have p102 : 0 ≤ (x7_1 : Int) := of_decide_eq_true (by first | (with_reducible assumption) | assumption)
       have q102 : x7_1 < (l0.length : Int) := of_decide_eq_true (by first | (with_reducible assumption) | assumption)
       obtain ⟨ad102, e102, hx102_0⟩ := Kd.at_int HR0.out x7_1 p102 q102
       cases e102
       replace p102 := eq_true p102
       replace q102 := eq_true q102
       go_wp2_with (first | (go_at_call 65; (with_reducible refine (whole_Fits.calls (rd l0 x7_1) true _ A5.out).mono ?_); rintro e w' ⟨rfl, ⟨nd, rfl⟩⟩))
       go_roundg k1
       case measure => have := HK1.out; omega
       case rel => exact ⟨(wrap64 (x7_1 + 1)), (by first | rfl | (simp; done) | (simp [*]; done)), H', ⟨by have := HK1.out; omega⟩, by repeat (first | exact Drawn0.refl _ | apply Drawn0.step)⟩
      ·replace c6 := Bool.eq_false_iff.mpr c6
       subst c6
       have H1 : (some false) = some r := by rw [if_neg (show ¬ (false = true) by decide)] at H; exact H
       clear H
       have H := H1
       clear H1
       obtain rfl := Option.some.inj H
       have p102 : 0 ≤ (x7_1 : Int) := of_decide_eq_true (by first | (with_reducible assumption) | assumption)
       have q102 : x7_1 < (l0.length : Int) := of_decide_eq_true (by first | (with_reducible assumption) | assumption)
       obtain ⟨ad102, e102, hx102_0⟩ := Kd.at_int HR0.out x7_1 p102 q102
       cases e102
       replace p102 := eq_true p102
       replace q102 := eq_true q102
       go_wp2_with (first | (go_at_call 65; (with_reducible refine (whole_Fits.calls (rd l0 x7_1) false _ A5.out).mono ?_); rintro e w' ⟨rfl, ⟨nd, rfl⟩⟩))
       go_ret
       exact ⟨by first | rfl | (simp; done) | (simp [*]; done), by repeat (first | exact Drawn0.refl _ | apply Drawn0.step)⟩
     ·rw [if_neg c4] at H
      exact absurd H (by simp)
    ·rw [if_neg c3] at H
     exact absurd H (by simp)
   ·rw [if_neg c2] at H
    have c2b0 : decide (x7_1 < (l0.length : Int)) = false := decide_eq_false c2
    clear c2
    obtain rfl := Option.some.inj H
    go_wp2
    go_ret
    exact ⟨by first | rfl | (simp; done) | (simp [*]; done), by repeat (first | exact Drawn0.refl _ | apply Drawn0.step)⟩

/-! ### whole_gcd_uint64: function 91 -/
def whole_gcd_uint64.l0 : Nat → Int → Int → Option (Int)
 | 0, _, _ => none
 | k + 1, x0, x1 => if x1 = 0 then (some x0) else (whole_gcd_uint64.l0 k x1 (Int.tmod x0 x1))
def whole_gcd_uint64.f (k : Nat) (a0 : Int) (a1 : Int) : Option (Int) := whole_gcd_uint64.l0 k a0 a1
theorem whole_gcd_uint64.mono_l : ∀ k, (∀ y0 y1, LeO (whole_gcd_uint64.l0 k y0 y1) (whole_gcd_uint64.l0 (k + 1) y0 y1))
 | 0 => fun _ _ r h => by simp [whole_gcd_uint64.l0] at h
 | k + 1 => by
  have ih0 := whole_gcd_uint64.mono_l k
  ·intro y0 y1
   unfold whole_gcd_uint64.l0
   repeat' first
   | (with_reducible exact ih0 _ _)
   | (with_reducible exact LeO.refl _)
   | (with_reducible exact LeO.none _)
   | (with_reducible refine LeO.ite ?_ ?_)
   | (with_reducible refine LeO.bind ?_ (fun _ => ?_))
   | exact ih0 _ _
   | exact LeO.none _
   | refine LeO.ite ?_ ?_
   | refine LeO.bind ?_ (fun _ => ?_)
theorem whole_gcd_uint64.mono : ∀ a0 a1 k, LeO (whole_gcd_uint64.f k a0 a1) (whole_gcd_uint64.f (k + 1) a0 a1) := by
 intro a0 a1 k
 have ih0 := whole_gcd_uint64.mono_l k
 unfold whole_gcd_uint64.f
 repeat' first
   | (with_reducible exact ih0 _ _)
   | (with_reducible exact LeO.refl _)
   | (with_reducible exact LeO.none _)
   | (with_reducible refine LeO.ite ?_ ?_)
   | (with_reducible refine LeO.bind ?_ (fun _ => ?_))
   | exact ih0 _ _
   | exact LeO.none _
   | refine LeO.ite ?_ ?_
   | refine LeO.bind ?_ (fun _ => ?_)
set_option maxHeartbeats 8000000 in
set_option maxRecDepth 100000 in
theorem whole_gcd_uint64.calls (k : Nat) (a0 : Int) (a1 : Int) (r : Int) (w : World) (h : whole_gcd_uint64.f k a0 a1 = some r) :
  Calls Tryd.prog 91 #[.int .u64 a0, .int .u64 a1] w fun e w' => e = .returned (.int .u64 r) ∧ Drawn0 w w' := by
 have H : (whole_gcd_uint64.l0 k a0 a1) = some r := h
 clear h
 have H' := Aside0.mk H
 clear H
 go_enter Tryd.func91, Tryd.ntmps91
 go_wp2
 repeat (go_quiet (fail); try go_wp2)
 go_loopg [0, 1] k (fun kq v0 v1 w' => ∃ (x0_1 : Int) (x1_1 : Int), v0 = .int .u64 x0_1 ∧ v1 = .int .u64 x1_1 ∧ Aside0 (whole_gcd_uint64.l0 kq x0_1 x1_1 = some r) ∧ Aside0 (kq ≤ k) ∧ Drawn0 w w')
 case atStart => exact ⟨(a0), (a1), (by first | rfl | (simp; done) | (simp [*]; done)), (by first | rfl | (simp; done) | (simp [*]; done)), H', ⟨Nat.le_refl _⟩, by repeat (first | exact Drawn0.refl _ | apply Drawn0.step)⟩
 case round =>
  clear H'
  try clear p2
  obtain ⟨x0_1, x1_1, rfl, rfl, HA, HK1, ⟨m1, rfl⟩⟩ := hrel
  cases gk with
  | zero => exact absurd HA.out (by simp [whole_gcd_uint64.l0])
  | succ k1 =>
   have H := HA.out
   clear HA
   simp only [whole_gcd_uint64.l0] at H
   by_cases c3 : x1_1 = 0
   ·rw [if_pos c3] at H
    have c3b0 : (x1_1 == 0) = true := beq_iff_eq.mpr c3
    have c3b1 : (x1_1 != 0) = false := bne_eq_false_iff_eq.mpr c3
    clear c3
    obtain rfl := Option.some.inj H
    go_wp2
    repeat (go_quiet (fail); try go_wp2)
    go_ret
    exact ⟨by first | rfl | (simp; done) | (simp [*]; done), by repeat (first | exact Drawn0.refl _ | apply Drawn0.step)⟩
   ·rw [if_neg c3] at H
    have c3b0 : (x1_1 == 0) = false := beq_eq_false_iff_ne.mpr c3
    have c3b1 : (x1_1 != 0) = true := bne_iff_ne.mpr c3
    have H' := Aside0.mk H
    clear H
    go_wp2
    repeat (go_quiet (fail); try go_wp2)
    go_roundg k1
    case measure => have := HK1.out; omega
    case rel => exact ⟨(x1_1), (Int.tmod x0_1 x1_1), (by first | rfl | (simp; done) | (simp [*]; done)), (by first | rfl | (simp; done) | (simp [*]; done)), H', ⟨by have := HK1.out; omega⟩, by repeat (first | exact Drawn0.refl _ | apply Drawn0.step)⟩

/-! ### whole_size: function 92 -/
def whole_size.f (a0 : Int) : Option (Int) := if a0 < 0 then (some (IntKind.u64.wrap (wrap64 (-a0)))) else (some (IntKind.u64.wrap (a0)))
set_option maxHeartbeats 8000000 in
set_option maxRecDepth 100000 in
theorem whole_size.calls (a0 : Int) (r : Int) (w : World) (h : whole_size.f a0 = some r) :
  Calls Tryd.prog 92 #[.int .i64 a0] w fun e w' => e = .returned (.int .u64 r) ∧ Drawn0 w w' := by
 have H : (if a0 < 0 then (some (IntKind.u64.wrap (wrap64 (-a0)))) else (some (IntKind.u64.wrap (a0)))) = some r := h
 clear h
 by_cases c2 : a0 < 0
 ·rw [if_pos c2] at H
  have c2b0 : decide (a0 < 0) = true := decide_eq_true c2
  clear c2
  obtain rfl := Option.some.inj H
  go_enter Tryd.func92, Tryd.ntmps92
  go_wp2
  go_ret
  exact ⟨by first | rfl | (simp; done) | (simp [*]; done), by repeat (first | exact Drawn0.refl _ | apply Drawn0.step)⟩
 ·rw [if_neg c2] at H
  have c2b0 : decide (a0 < 0) = false := decide_eq_false c2
  clear c2
  obtain rfl := Option.some.inj H
  go_enter Tryd.func92, Tryd.ntmps92
  go_wp2
  go_ret
  exact ⟨by first | rfl | (simp; done) | (simp [*]; done), by repeat (first | exact Drawn0.refl _ | apply Drawn0.step)⟩

/-! ### whole_Gcd: function 77 -/
def whole_Gcd.f (k : Nat) (a0 : Int) (a1 : Int) : Option (Int) := (whole_fit.f k (([a0, a1] : List Int))).bind fun t107 => (if t107 = true then ((whole_size.f a0).bind fun t108 => ((whole_size.f a1).bind fun t109 => ((whole_gcd_uint64.f k t108 t109).bind fun t110 => (some (wrap64 (t110)))))) else (some 0))
theorem whole_Gcd.mono : ∀ a0 a1 k, LeO (whole_Gcd.f k a0 a1) (whole_Gcd.f (k + 1) a0 a1) := by
 intro a0 a1 k
 unfold whole_Gcd.f
 repeat' first
   | (with_reducible exact whole_fit.mono _ _)
   | (with_reducible exact whole_gcd_uint64.mono _ _ _)
   | (with_reducible exact LeO.refl _)
   | (with_reducible exact LeO.none _)
   | (with_reducible refine LeO.ite ?_ ?_)
   | (with_reducible refine LeO.bind ?_ (fun _ => ?_))
   | exact whole_fit.mono _ _
   | exact whole_gcd_uint64.mono _ _ _
   | exact LeO.none _
   | refine LeO.ite ?_ ?_
   | refine LeO.bind ?_ (fun _ => ?_)
set_option maxHeartbeats 8000000 in
set_option maxRecDepth 100000 in
theorem whole_Gcd.calls (k : Nat) (a0 : Int) (a1 : Int) (r : Int) (w : World) (h : whole_Gcd.f k a0 a1 = some r) :
  Calls Tryd.prog 77 #[.int .i64 a0, .int .i64 a1] w fun e w' => e = .returned (.int .i64 r) ∧ Below w.heap.size w w' := by
 have HB := Aside0.mk (Below.refl w.heap.size w)
 have H : ((whole_fit.f k (([a0, a1] : List Int))).bind fun t107 => (if t107 = true then ((whole_size.f a0).bind fun t108 => ((whole_size.f a1).bind fun t109 => ((whole_gcd_uint64.f k t108 t109).bind fun t110 => (some (wrap64 (t110)))))) else (some 0))) = some r := h
 clear h
 obtain ⟨y104, hy104⟩ : ∃ y_ : List Int, y_ = (([a0, a1] : List Int)) := ⟨_, rfl⟩
 replace H : ((whole_fit.f k y104).bind fun t107 => (if t107 = true then ((whole_size.f a0).bind fun t108 => ((whole_size.f a1).bind fun t109 => ((whole_gcd_uint64.f k t108 t109).bind fun t110 => (some (wrap64 (t110)))))) else (some 0))) = some r := by first | (rw [hy104]; with_reducible exact H) | (have H2_ := (Option.bind_some _ _).symm.trans H; rw [hy104]; with_reducible exact H2_) | (have H2_ := (Option.bind_some _ _).symm.trans H; with_reducible exact H2_) | with_reducible exact H | (rw [hy104]; exact H) | exact H
 have Ny104 := Aside0.mk hy104
 clear hy104
 replace H := Option.bind_eq_some_iff.mp H
 obtain ⟨t107, A30, H⟩ := H
 replace H : (if t107 = true then ((whole_size.f a0).bind fun t108 => ((whole_size.f a1).bind fun t109 => ((whole_gcd_uint64.f k t108 t109).bind fun t110 => (some (wrap64 (t110)))))) else (some 0)) = some r := H
 have A3 := Aside0.mk A30
 clear A30
 by_cases c4 : t107 = true
 ·subst c4
  have H1 : ((whole_size.f a0).bind fun t108 => ((whole_size.f a1).bind fun t109 => ((whole_gcd_uint64.f k t108 t109).bind fun t110 => (some (wrap64 (t110)))))) = some r := by rw [if_pos rfl] at H; exact H
  clear H
  have H := H1
  clear H1
  replace H := Option.bind_eq_some_iff.mp H
  obtain ⟨t108, A50, H⟩ := H
  replace H : ((whole_size.f a1).bind fun t109 => ((whole_gcd_uint64.f k t108 t109).bind fun t110 => (some (wrap64 (t110))))) = some r := H
  have A5 := Aside0.mk A50
  clear A50
  replace H := Option.bind_eq_some_iff.mp H
  obtain ⟨t109, A60, H⟩ := H
  replace H : ((whole_gcd_uint64.f k t108 t109).bind fun t110 => (some (wrap64 (t110)))) = some r := H
  have A6 := Aside0.mk A60
  clear A60
  replace H := Option.bind_eq_some_iff.mp H
  obtain ⟨t110, A70, H⟩ := H
  replace H : (some (wrap64 (t110))) = some r := H
  have A7 := Aside0.mk A70
  clear A70
  obtain rfl := Option.some.inj H
  go_enter Tryd.func77, Tryd.ntmps77
  go_wp2_with (first | ((with_reducible refine gate_dst (N := 7) rfl ?_); refine Kd.R_lit (Kd.int .i64) _ 2 ?hg (N := 7) ?hd (xs := ([a0, a1] : List Int)) (inner := [.int .i64 a0, .int .i64 a1]) (ok := fun _ => True) (okp := fun _ => True) ?hr ?hp (fun _ hk => hk) trivial (Below.refl _ _) (Nat.le_refl _) (by simp) ?_; (case hd => rfl); (case hg => rfl); (case hr => first | (go_simp; done) | (go_simp; rfl)); (case hp => exact (Reps.one (show Kd.M (Kd.int .i64) _ _ _ a0 [.int .i64 a0] from rfl) (Reps.one (show Kd.M (Kd.int .i64) _ _ _ a1 [.int .i64 a1] from rfl) (Reps.none _ _)))); intro v105 w8 ho9 hb hg_ hnew_; clear hg_ hnew_; (first | rw [← Ny104.out] at ho9 | (simp only [Int.reduceToNat] at ho9; rw [← Ny104.out] at ho9)); have HO106 := Aside0.mk (Kd.R_lower ho9 (below_size (bl HB.out))); replace HB := sb HB hb; clear hb ho9; obtain ⟨Ao10, co10, eo10⟩ := Kd.R_slice HO106.out; subst eo10) | ((with_reducible refine gate_callee (f := 90) rfl ?_); refine goesL_ (some 8) rfl rfl Tryd.func90 (by kernel_rfl) rfl #[.slice Ao10 y104.length co10] rfl (by (try simp only [List.map_toArray, List.map_cons, List.map_nil]); first | done | rfl | (simp only [List.length_drop, List.length_take]; rfl)) ?_; (with_reducible refine (whole_fit.calls k _ _ y104 true _ ?side1 ?side2 A3.out).mono ?_); (case side1 => repeat (first | exact (Kd.R_reads' HO106.out).2.2 | (with_reducible refine Kd.C_alloc ?_ _) | (with_reducible refine Kd.C_drewN ?_ _) | (with_reducible refine Kd.C_drew ?_))); (case side2 => exact (Kd.R_reads' HO106.out).2.1); rintro e w' ⟨rfl, ⟨nd, rfl⟩⟩; refine ⟨_, rfl, ?_⟩) | (go_at_call 92; (with_reducible refine (whole_size.calls a0 t108 _ A5.out).mono ?_); rintro e w' ⟨rfl, ⟨nd, rfl⟩⟩) | (go_at_call 92; (with_reducible refine (whole_size.calls a1 t109 _ A6.out).mono ?_); rintro e w' ⟨rfl, ⟨nd, rfl⟩⟩) | (go_at_call 91; (with_reducible refine (whole_gcd_uint64.calls k t108 t109 t110 _ A7.out).mono ?_); rintro e w' ⟨rfl, ⟨nd, rfl⟩⟩))
  go_ret
  exact ⟨by first | rfl | (simp [errW_none, errW_some] <;> rfl) | (simp [*, errW_none, errW_some] <;> rfl), bl HB.out⟩
 ·replace c4 := Bool.eq_false_iff.mpr c4
  subst c4
  have H1 : (some 0) = some r := by rw [if_neg (show ¬ (false = true) by decide)] at H; exact H
  clear H
  have H := H1
  clear H1
  obtain rfl := Option.some.inj H
  go_enter Tryd.func77, Tryd.ntmps77
  go_wp2_with (first | ((with_reducible refine gate_dst (N := 7) rfl ?_); refine Kd.R_lit (Kd.int .i64) _ 2 ?hg (N := 7) ?hd (xs := ([a0, a1] : List Int)) (inner := [.int .i64 a0, .int .i64 a1]) (ok := fun _ => True) (okp := fun _ => True) ?hr ?hp (fun _ hk => hk) trivial (Below.refl _ _) (Nat.le_refl _) (by simp) ?_; (case hd => rfl); (case hg => rfl); (case hr => first | (go_simp; done) | (go_simp; rfl)); (case hp => exact (Reps.one (show Kd.M (Kd.int .i64) _ _ _ a0 [.int .i64 a0] from rfl) (Reps.one (show Kd.M (Kd.int .i64) _ _ _ a1 [.int .i64 a1] from rfl) (Reps.none _ _)))); intro v105 w11 ho12 hb hg_ hnew_; clear hg_ hnew_; (first | rw [← Ny104.out] at ho12 | (simp only [Int.reduceToNat] at ho12; rw [← Ny104.out] at ho12)); have HO106 := Aside0.mk (Kd.R_lower ho12 (below_size (bl HB.out))); replace HB := sb HB hb; clear hb ho12; obtain ⟨Ao13, co13, eo13⟩ := Kd.R_slice HO106.out; subst eo13) | ((with_reducible refine gate_callee (f := 90) rfl ?_); refine goesL_ (some 8) rfl rfl Tryd.func90 (by kernel_rfl) rfl #[.slice Ao13 y104.length co13] rfl (by (try simp only [List.map_toArray, List.map_cons, List.map_nil]); first | done | rfl | (simp only [List.length_drop, List.length_take]; rfl)) ?_; (with_reducible refine (whole_fit.calls k _ _ y104 false _ ?side1 ?side2 A3.out).mono ?_); (case side1 => repeat (first | exact (Kd.R_reads' HO106.out).2.2 | (with_reducible refine Kd.C_alloc ?_ _) | (with_reducible refine Kd.C_drewN ?_ _) | (with_reducible refine Kd.C_drew ?_))); (case side2 => exact (Kd.R_reads' HO106.out).2.1); rintro e w' ⟨rfl, ⟨nd, rfl⟩⟩; refine ⟨_, rfl, ?_⟩))
  go_ret
  exact ⟨by first | rfl | (simp [errW_none, errW_some] <;> rfl) | (simp [*, errW_none, errW_some] <;> rfl), bl HB.out⟩

/-! ### bits_Mul64: function 98 -/
def bits_Mul64.f (a0 : Int) (a1 : Int) : Option (Int × Int) := some (IntKind.u64.wrap ((IntKind.u64.wrap ((IntKind.u64.wrap ((a0 / 4294967296) * (a1 / 4294967296))) + ((IntKind.u64.wrap ((IntKind.u64.wrap ((a0 / 4294967296) * (Go.bits .and .u64 a1 4294967295))) + ((IntKind.u64.wrap ((Go.bits .and .u64 a0 4294967295) * (Go.bits .and .u64 a1 4294967295))) / 4294967296))) / 4294967296))) + ((IntKind.u64.wrap ((Go.bits .and .u64 (IntKind.u64.wrap ((IntKind.u64.wrap ((a0 / 4294967296) * (Go.bits .and .u64 a1 4294967295))) + ((IntKind.u64.wrap ((Go.bits .and .u64 a0 4294967295) * (Go.bits .and .u64 a1 4294967295))) / 4294967296))) 4294967295) + (IntKind.u64.wrap ((Go.bits .and .u64 a0 4294967295) * (a1 / 4294967296))))) / 4294967296)), IntKind.u64.wrap (a0 * a1))
set_option maxHeartbeats 8000000 in
set_option maxRecDepth 100000 in
theorem bits_Mul64.calls (a0 : Int) (a1 : Int) (r1 : Int) (r2 : Int) (w : World) (h : bits_Mul64.f a0 a1 = some (r1, r2)) :
  Calls Tryd.prog 98 #[.int .u64 a0, .int .u64 a1] w fun e w' => e = .returned (.tuple #[.int .u64 r1, .int .u64 r2]) ∧ Drawn0 w w' := by
 have H : (some (IntKind.u64.wrap ((IntKind.u64.wrap ((IntKind.u64.wrap ((a0 / 4294967296) * (a1 / 4294967296))) + ((IntKind.u64.wrap ((IntKind.u64.wrap ((a0 / 4294967296) * (Go.bits .and .u64 a1 4294967295))) + ((IntKind.u64.wrap ((Go.bits .and .u64 a0 4294967295) * (Go.bits .and .u64 a1 4294967295))) / 4294967296))) / 4294967296))) + ((IntKind.u64.wrap ((Go.bits .and .u64 (IntKind.u64.wrap ((IntKind.u64.wrap ((a0 / 4294967296) * (Go.bits .and .u64 a1 4294967295))) + ((IntKind.u64.wrap ((Go.bits .and .u64 a0 4294967295) * (Go.bits .and .u64 a1 4294967295))) / 4294967296))) 4294967295) + (IntKind.u64.wrap ((Go.bits .and .u64 a0 4294967295) * (a1 / 4294967296))))) / 4294967296)), IntKind.u64.wrap (a0 * a1))) = some (r1, r2) := h
 clear h
 simp only [Option.some.injEq, Prod.mk.injEq] at H
 obtain ⟨rfl, rfl⟩ := H
 go_enter Tryd.func98, Tryd.ntmps98
 go_wp2
 go_ret2
 exact ⟨by first | rfl | (simp; done) | (simp [*]; done), by repeat (first | exact Drawn0.refl _ | apply Drawn0.step)⟩

/-! ### whole_Mul: function 86 -/
def whole_Mul.j0 : Nat → Int → Int → Int → Bool → Option (Int × Bool)
 | 0, _, _, _, _ => none
 | k + 1, x0, x1, x7, x27 => if x27 = true then (some (0, false)) else (if ((decide (x0 < 0)) != (decide (x1 < 0))) = true then (some (wrap64 (-(wrap64 (x7))), true)) else (some (wrap64 (x7), true)))
def whole_Mul.f (k : Nat) (a0 : Int) (a1 : Int) : Option (Int × Bool) := (whole_fit.f k (([a0, a1] : List Int))).bind fun t114 => (if t114 = true then ((whole_size.f a0).bind fun t115 => ((whole_size.f a1).bind fun t116 => ((bits_Mul64.f t115 t116).bind fun bt117 => (if bt117.1 > 0 then (whole_Mul.j0 k a0 a1 bt117.2 true) else (whole_Mul.j0 k a0 a1 bt117.2 (decide (bt117.2 > 9223372036854775807))))))) else (some (0, false)))
theorem whole_Mul.mono_l : ∀ k, (∀ y0 y1 y2 y3, LeO (whole_Mul.j0 k y0 y1 y2 y3) (whole_Mul.j0 (k + 1) y0 y1 y2 y3))
 | 0 => fun _ _ _ _ r h => by simp [whole_Mul.j0] at h
 | k + 1 => by
  have ih0 := whole_Mul.mono_l k
  ·intro y0 y1 y2 y3
   unfold whole_Mul.j0
   repeat' first
   | (with_reducible exact ih0 _ _ _ _)
   | (with_reducible exact whole_fit.mono _ _)
   | (with_reducible exact LeO.refl _)
   | (with_reducible exact LeO.none _)
   | (with_reducible refine LeO.ite ?_ ?_)
   | (with_reducible refine LeO.bind ?_ (fun _ => ?_))
   | exact ih0 _ _ _ _
   | exact whole_fit.mono _ _
   | exact LeO.none _
   | refine LeO.ite ?_ ?_
   | refine LeO.bind ?_ (fun _ => ?_)
theorem whole_Mul.mono : ∀ a0 a1 k, LeO (whole_Mul.f k a0 a1) (whole_Mul.f (k + 1) a0 a1) := by
 intro a0 a1 k
 have ih0 := whole_Mul.mono_l k
 unfold whole_Mul.f
 repeat' first
   | (with_reducible exact ih0 _ _ _ _)
   | (with_reducible exact whole_fit.mono _ _)
   | (with_reducible exact LeO.refl _)
   | (with_reducible exact LeO.none _)
   | (with_reducible refine LeO.ite ?_ ?_)
   | (with_reducible refine LeO.bind ?_ (fun _ => ?_))
   | exact ih0 _ _ _ _
   | exact whole_fit.mono _ _
   | exact LeO.none _
   | refine LeO.ite ?_ ?_
   | refine LeO.bind ?_ (fun _ => ?_)
set_option maxHeartbeats 8000000 in
set_option maxRecDepth 100000 in
theorem whole_Mul.calls (k : Nat) (a0 : Int) (a1 : Int) (r1 : Int) (r2 : Bool) (w : World) (h : whole_Mul.f k a0 a1 = some (r1, r2)) :
  Calls Tryd.prog 86 #[.int .i64 a0, .int .i64 a1] w fun e w' => e = .returned (.tuple #[.int .i64 r1, .bool r2]) ∧ Below w.heap.size w w' := by
 have HB := Aside0.mk (Below.refl w.heap.size w)
 have H : ((whole_fit.f k (([a0, a1] : List Int))).bind fun t114 => (if t114 = true then ((whole_size.f a0).bind fun t115 => ((whole_size.f a1).bind fun t116 => ((bits_Mul64.f t115 t116).bind fun bt117 => (if bt117.1 > 0 then (whole_Mul.j0 k a0 a1 bt117.2 true) else (whole_Mul.j0 k a0 a1 bt117.2 (decide (bt117.2 > 9223372036854775807))))))) else (some (0, false)))) = some (r1, r2) := h
 clear h
 obtain ⟨y111, hy111⟩ : ∃ y_ : List Int, y_ = (([a0, a1] : List Int)) := ⟨_, rfl⟩
 replace H : ((whole_fit.f k y111).bind fun t114 => (if t114 = true then ((whole_size.f a0).bind fun t115 => ((whole_size.f a1).bind fun t116 => ((bits_Mul64.f t115 t116).bind fun bt117 => (if bt117.1 > 0 then (whole_Mul.j0 k a0 a1 bt117.2 true) else (whole_Mul.j0 k a0 a1 bt117.2 (decide (bt117.2 > 9223372036854775807))))))) else (some (0, false)))) = some (r1, r2) := by first | (rw [hy111]; with_reducible exact H) | (have H2_ := (Option.bind_some _ _).symm.trans H; rw [hy111]; with_reducible exact H2_) | (have H2_ := (Option.bind_some _ _).symm.trans H; with_reducible exact H2_) | with_reducible exact H | (rw [hy111]; exact H) | exact H
 have Ny111 := Aside0.mk hy111
 clear hy111
 replace H := Option.bind_eq_some_iff.mp H
 obtain ⟨t114, A30, H⟩ := H
 replace H : (if t114 = true then ((whole_size.f a0).bind fun t115 => ((whole_size.f a1).bind fun t116 => ((bits_Mul64.f t115 t116).bind fun bt117 => (if bt117.1 > 0 then (whole_Mul.j0 k a0 a1 bt117.2 true) else (whole_Mul.j0 k a0 a1 bt117.2 (decide (bt117.2 > 9223372036854775807))))))) else (some (0, false))) = some (r1, r2) := H
 have A3 := Aside0.mk A30
 clear A30
 by_cases c4 : t114 = true
 ·subst c4
  have H1 : ((whole_size.f a0).bind fun t115 => ((whole_size.f a1).bind fun t116 => ((bits_Mul64.f t115 t116).bind fun bt117 => (if bt117.1 > 0 then (whole_Mul.j0 k a0 a1 bt117.2 true) else (whole_Mul.j0 k a0 a1 bt117.2 (decide (bt117.2 > 9223372036854775807))))))) = some (r1, r2) := by rw [if_pos rfl] at H; exact H
  clear H
  have H := H1
  clear H1
  replace H := Option.bind_eq_some_iff.mp H
  obtain ⟨t115, A50, H⟩ := H
  replace H : ((whole_size.f a1).bind fun t116 => ((bits_Mul64.f t115 t116).bind fun bt117 => (if bt117.1 > 0 then (whole_Mul.j0 k a0 a1 bt117.2 true) else (whole_Mul.j0 k a0 a1 bt117.2 (decide (bt117.2 > 9223372036854775807)))))) = some (r1, r2) := H
  have A5 := Aside0.mk A50
  clear A50
  replace H := Option.bind_eq_some_iff.mp H
  obtain ⟨t116, A60, H⟩ := H
  replace H : ((bits_Mul64.f t115 t116).bind fun bt117 => (if bt117.1 > 0 then (whole_Mul.j0 k a0 a1 bt117.2 true) else (whole_Mul.j0 k a0 a1 bt117.2 (decide (bt117.2 > 9223372036854775807))))) = some (r1, r2) := H
  have A6 := Aside0.mk A60
  clear A60
  replace H := Option.bind_eq_some_iff.mp H
  obtain ⟨⟨t117, t118⟩, A70, H⟩ := H
  replace H : (if t117 > 0 then (whole_Mul.j0 k a0 a1 t118 true) else (whole_Mul.j0 k a0 a1 t118 (decide (t118 > 9223372036854775807)))) = some (r1, r2) := H
  have A7 := Aside0.mk A70
  clear A70
  have HC8 := Aside0.mk H
  clear H
  go_enter Tryd.func86, Tryd.ntmps86
  go_upto_region 4 with (first | ((with_reducible refine gate_dst (N := 11) rfl ?_); refine Kd.R_lit (Kd.int .i64) _ 2 ?hg (N := 11) ?hd (xs := ([a0, a1] : List Int)) (inner := [.int .i64 a0, .int .i64 a1]) (ok := fun _ => True) (okp := fun _ => True) ?hr ?hp (fun _ hk => hk) trivial (Below.refl _ _) (Nat.le_refl _) (by simp) ?_; (case hd => rfl); (case hg => rfl); (case hr => first | (go_simp; done) | (go_simp; rfl)); (case hp => exact (Reps.one (show Kd.M (Kd.int .i64) _ _ _ a0 [.int .i64 a0] from rfl) (Reps.one (show Kd.M (Kd.int .i64) _ _ _ a1 [.int .i64 a1] from rfl) (Reps.none _ _)))); intro v112 w9 ho10 hb hg_ hnew_; clear hg_ hnew_; (first | rw [← Ny111.out] at ho10 | (simp only [Int.reduceToNat] at ho10; rw [← Ny111.out] at ho10)); have HO113 := Aside0.mk (Kd.R_lower ho10 (below_size (bl HB.out))); replace HB := sb HB hb; clear hb ho10; obtain ⟨Ao11, co11, eo11⟩ := Kd.R_slice HO113.out; subst eo11) | ((with_reducible refine gate_callee (f := 90) rfl ?_); refine goesL_ (some 12) rfl rfl Tryd.func90 (by kernel_rfl) rfl #[.slice Ao11 y111.length co11] rfl (by (try simp only [List.map_toArray, List.map_cons, List.map_nil]); first | done | rfl | (simp only [List.length_drop, List.length_take]; rfl)) ?_; (with_reducible refine (whole_fit.calls k _ _ y111 true _ ?side1 ?side2 A3.out).mono ?_); (case side1 => repeat (first | exact (Kd.R_reads' HO113.out).2.2 | (with_reducible refine Kd.C_alloc ?_ _) | (with_reducible refine Kd.C_drewN ?_ _) | (with_reducible refine Kd.C_drew ?_))); (case side2 => exact (Kd.R_reads' HO113.out).2.1); rintro e w' ⟨rfl, ⟨nd, rfl⟩⟩; refine ⟨_, rfl, ?_⟩) | (go_at_call 92; (with_reducible refine (whole_size.calls a0 t115 _ A5.out).mono ?_); rintro e w' ⟨rfl, ⟨nd, rfl⟩⟩) | (go_at_call 92; (with_reducible refine (whole_size.calls a1 t116 _ A6.out).mono ?_); rintro e w' ⟨rfl, ⟨nd, rfl⟩⟩) | (go_at_call 98; (with_reducible refine (bits_Mul64.calls t115 t116 t117 t118 _ A7.out).mono ?_); rintro e w' ⟨rfl, ⟨nd, rfl⟩⟩))
  (try simp only [Act.put, List.setIfInBounds_toArray, List.set_cons_zero, List.set_cons_succ])
  go_cut [27] (fun v27 wc => ∃ (kq : Nat) (x27_7 : Bool), v27 = .bool x27_7 ∧ Aside0 (whole_Mul.j0 kq a0 a1 t118 x27_7 = some (r1, r2)) ∧ Aside0 (kq ≤ k) ∧ Aside0 (Below w.heap.size w wc))
  case first =>
   have H := HC8.out
   clear HC8
   by_cases c12 : t117 > 0
   ·rw [if_pos c12] at H
    have c12b0 : decide (0 < t117) = true := decide_eq_true c12
    clear c12
    (first | rw [c12b0] | (simp only [i64_w, i32_w]; rw [c12b0]) | skip)
    have H' := Aside0.mk H
    clear H
    go_wp2
    go_meet
    case rel => exact ⟨_, (true), (by first | rfl | (simp; done) | (simp [*]; done)), H', ⟨by first | omega | exact Nat.le_refl _⟩, ⟨bl HB.out⟩⟩
   ·rw [if_neg c12] at H
    have c12b0 : decide (0 < t117) = false := decide_eq_false c12
    clear c12
    (first | rw [c12b0] | (simp only [i64_w, i32_w]; rw [c12b0]) | skip)
    have H' := Aside0.mk H
    clear H
    go_wp2
    go_meet
    case rel => exact ⟨_, (decide (t118 > 9223372036854775807)), (by first | rfl | (simp; done) | (simp [*]; done)), H', ⟨by first | omega | exact Nat.le_refl _⟩, ⟨bl HB.out⟩⟩
  case rest =>
   clear HC8
   try clear c1
   try clear p2
   try clear c4
   try clear c8
   try clear c9
   try clear c12
   try clear c12b0
   obtain ⟨kq, x27_7, rfl, HA, HJ7, HB⟩ := hcut
   cases kq with
   | zero => exact absurd HA.out (by simp [whole_Mul.j0])
   | succ kj7 =>
    have H := HA.out
    clear HA
    simp only [whole_Mul.j0] at H
    by_cases c13 : x27_7 = true
    ·subst c13
     have H1 : (some (0, false)) = some (r1, r2) := by rw [if_pos rfl] at H; exact H
     clear H
     have H := H1
     clear H1
     simp only [Option.some.injEq, Prod.mk.injEq] at H
     obtain ⟨rfl, rfl⟩ := H
     go_wp2
     go_ret2
     exact ⟨by first | rfl | (simp [errW_none, errW_some] <;> rfl) | (simp [*, errW_none, errW_some] <;> rfl), bl HB.out⟩
    ·replace c13 := Bool.eq_false_iff.mpr c13
     subst c13
     have H1 : (if ((decide (a0 < 0)) != (decide (a1 < 0))) = true then (some (wrap64 (-(wrap64 (t118))), true)) else (some (wrap64 (t118), true))) = some (r1, r2) := by rw [if_neg (show ¬ (false = true) by decide)] at H; exact H
     clear H
     have H := H1
     clear H1
     by_cases c14 : ((decide (a0 < 0)) != (decide (a1 < 0))) = true
     ·rw [if_pos c14] at H
      have c14b0 : ((decide (a0 < 0)) != (decide (a1 < 0))) = true := c14
      (try (have c14b1 : decide ((decide (a0 < 0)) = (decide (a1 < 0))) = false := by simpa using c14))
      (try (have c14b2 : ((decide (a0 < 0)) == (decide (a1 < 0))) = false := by simpa using c14))
      (try (have c14b3 : ¬ ((decide (a0 < 0)) = (decide (a1 < 0))) := by simpa using c14))
      clear c14
      simp only [Option.some.injEq, Prod.mk.injEq] at H
      obtain ⟨rfl, rfl⟩ := H
      go_wp2
      go_ret2
      exact ⟨by first | rfl | (simp [errW_none, errW_some] <;> rfl) | (simp [*, errW_none, errW_some] <;> rfl), bl HB.out⟩
     ·rw [if_neg c14] at H
      have c14b0 : ((decide (a0 < 0)) != (decide (a1 < 0))) = false := by simpa using c14
      (try (have c14b1 : decide ((decide (a0 < 0)) = (decide (a1 < 0))) = true := by simpa using c14))
      (try (have c14b2 : ((decide (a0 < 0)) == (decide (a1 < 0))) = true := by simpa using c14))
      clear c14
      simp only [Option.some.injEq, Prod.mk.injEq] at H
      obtain ⟨rfl, rfl⟩ := H
      go_wp2
      go_ret2
      exact ⟨by first | rfl | (simp [errW_none, errW_some] <;> rfl) | (simp [*, errW_none, errW_some] <;> rfl), bl HB.out⟩
 ·replace c4 := Bool.eq_false_iff.mpr c4
  subst c4
  have H1 : (some (0, false)) = some (r1, r2) := by rw [if_neg (show ¬ (false = true) by decide)] at H; exact H
  clear H
  have H := H1
  clear H1
  simp only [Option.some.injEq, Prod.mk.injEq] at H
  obtain ⟨rfl, rfl⟩ := H
  go_enter Tryd.func86, Tryd.ntmps86
  go_wp2_with (first | ((with_reducible refine gate_dst (N := 11) rfl ?_); refine Kd.R_lit (Kd.int .i64) _ 2 ?hg (N := 11) ?hd (xs := ([a0, a1] : List Int)) (inner := [.int .i64 a0, .int .i64 a1]) (ok := fun _ => True) (okp := fun _ => True) ?hr ?hp (fun _ hk => hk) trivial (Below.refl _ _) (Nat.le_refl _) (by simp) ?_; (case hd => rfl); (case hg => rfl); (case hr => first | (go_simp; done) | (go_simp; rfl)); (case hp => exact (Reps.one (show Kd.M (Kd.int .i64) _ _ _ a0 [.int .i64 a0] from rfl) (Reps.one (show Kd.M (Kd.int .i64) _ _ _ a1 [.int .i64 a1] from rfl) (Reps.none _ _)))); intro v112 w15 ho16 hb hg_ hnew_; clear hg_ hnew_; (first | rw [← Ny111.out] at ho16 | (simp only [Int.reduceToNat] at ho16; rw [← Ny111.out] at ho16)); have HO113 := Aside0.mk (Kd.R_lower ho16 (below_size (bl HB.out))); replace HB := sb HB hb; clear hb ho16; obtain ⟨Ao17, co17, eo17⟩ := Kd.R_slice HO113.out; subst eo17) | ((with_reducible refine gate_callee (f := 90) rfl ?_); refine goesL_ (some 12) rfl rfl Tryd.func90 (by kernel_rfl) rfl #[.slice Ao17 y111.length co17] rfl (by (try simp only [List.map_toArray, List.map_cons, List.map_nil]); first | done | rfl | (simp only [List.length_drop, List.length_take]; rfl)) ?_; (with_reducible refine (whole_fit.calls k _ _ y111 false _ ?side1 ?side2 A3.out).mono ?_); (case side1 => repeat (first | exact (Kd.R_reads' HO113.out).2.2 | (with_reducible refine Kd.C_alloc ?_ _) | (with_reducible refine Kd.C_drewN ?_ _) | (with_reducible refine Kd.C_drew ?_))); (case side2 => exact (Kd.R_reads' HO113.out).2.1); rintro e w' ⟨rfl, ⟨nd, rfl⟩⟩; refine ⟨_, rfl, ?_⟩))
  go_ret2
  exact ⟨by first | rfl | (simp [errW_none, errW_some] <;> rfl) | (simp [*, errW_none, errW_some] <;> rfl), bl HB.out⟩

/-! ### frac_Right: function 47 -/
def frac_Right.f (k : Nat) (a0_0 : Int) (a0_1 : Int) (a0_2 : Int) : Option (Bool) := if a0_0 = 0 then (some (a0_0 == 0 && (a0_1 == 1 && (a0_2 == 0)))) else ((whole_Fits.f a0_0).bind fun t120 => (if t120 = true then (if a0_1 ≥ 1 then (if (Int.tmod a0_1 2) = 0 then (some false) else (if (Int.tmod a0_1 5) = 0 then (some false) else (if (Int.tmod a0_0 10) = 0 then (some false) else ((whole_Gcd.f k a0_0 a0_1).bind fun t121 => (if t121 = 1 then (if a0_2 ≥ (-1000) then (some (decide (a0_2 ≤ 1000))) else (some false)) else (some false)))))) else (some false)) else (some false)))
theorem frac_Right.mono : ∀ a0 a1 a2 k, LeO (frac_Right.f k a0 a1 a2) (frac_Right.f (k + 1) a0 a1 a2) := by
 intro a0 a1 a2 k
 unfold frac_Right.f
 repeat' first
   | (with_reducible exact whole_Gcd.mono _ _ _)
   | (with_reducible exact LeO.refl _)
   | (with_reducible exact LeO.none _)
   | (with_reducible refine LeO.ite ?_ ?_)
   | (with_reducible refine LeO.bind ?_ (fun _ => ?_))
   | exact whole_Gcd.mono _ _ _
   | exact LeO.none _
   | refine LeO.ite ?_ ?_
   | refine LeO.bind ?_ (fun _ => ?_)
set_option maxHeartbeats 8000000 in
set_option maxRecDepth 100000 in
theorem frac_Right.calls (k : Nat) (a0_0 : Int) (a0_1 : Int) (a0_2 : Int) (r : Bool) (w : World) (h : frac_Right.f k a0_0 a0_1 a0_2 = some r) :
  Calls Tryd.prog 47 #[.agg #[.int .i64 a0_0, .int .i64 a0_1, .int .i64 a0_2]] w fun e w' => e = .returned (.bool r) ∧ Below w.heap.size w w' := by
 have hu29 := Tryd.underlying29
 have HB := Aside0.mk (Below.refl w.heap.size w)
 have H : (if a0_0 = 0 then (some (a0_0 == 0 && (a0_1 == 1 && (a0_2 == 0)))) else ((whole_Fits.f a0_0).bind fun t120 => (if t120 = true then (if a0_1 ≥ 1 then (if (Int.tmod a0_1 2) = 0 then (some false) else (if (Int.tmod a0_1 5) = 0 then (some false) else (if (Int.tmod a0_0 10) = 0 then (some false) else ((whole_Gcd.f k a0_0 a0_1).bind fun t121 => (if t121 = 1 then (if a0_2 ≥ (-1000) then (some (decide (a0_2 ≤ 1000))) else (some false)) else (some false)))))) else (some false)) else (some false)))) = some r := h
 clear h
 by_cases c2 : a0_0 = 0
 ·rw [if_pos c2] at H
  have c2b0 : (a0_0 == 0) = true := beq_iff_eq.mpr c2
  have c2b1 : (a0_0 != 0) = false := bne_eq_false_iff_eq.mpr c2
  clear c2
  obtain rfl := Option.some.inj H
  go_enter Tryd.func47, Tryd.ntmps47
  go_wp2_with (first | ((with_reducible refine gate_dst (N := 1) rfl ?_); refine box_event ?hg (N := 1) ?hd (cs := #[.int .i64 a0_0, .int .i64 a0_1, .int .i64 a0_2]) (t := 29) ?hr ?_; (case hd => rfl); (case hg => rfl); (case hr => first | (go_simp; done) | (go_simp; rfl)); intro gb119 hg w3 hbox hb; have n0_ := sb HB hb; have n1_ := Aside0.mk (hbox); have n2_ := Aside0.mk ((by rw [hg]; exact (below_size (bl HB.out)) : w.heap.size ≤ gb119)); have n3_ := Aside0.mk ((by rw [hg]; exact (below_size (bl HB.out)) : w.heap.size ≤ gb119)); clear HB; have HB := n0_; have BK119 := n1_; have GW119 := n2_; have GE119 := n3_; clear n0_ n1_ n2_ n3_; clear hb hbox hg; obtain ⟨hcz4_0, hcz4_1, hcz4_2⟩ := hc3 BK119.out; obtain ⟨hfz4_0, hfz4_1, hfz4_2⟩ := hf3 BK119.out))
  go_ret
  exact ⟨by first | rfl | (simp [errW_none, errW_some] <;> rfl) | (simp [*, errW_none, errW_some] <;> rfl), bl HB.out⟩
 ·rw [if_neg c2] at H
  have c2b0 : (a0_0 == 0) = false := beq_eq_false_iff_ne.mpr c2
  have c2b1 : (a0_0 != 0) = true := bne_iff_ne.mpr c2
  replace H := Option.bind_eq_some_iff.mp H
  obtain ⟨t120, A50, H⟩ := H
  replace H : (if t120 = true then (if a0_1 ≥ 1 then (if (Int.tmod a0_1 2) = 0 then (some false) else (if (Int.tmod a0_1 5) = 0 then (some false) else (if (Int.tmod a0_0 10) = 0 then (some false) else ((whole_Gcd.f k a0_0 a0_1).bind fun t121 => (if t121 = 1 then (if a0_2 ≥ (-1000) then (some (decide (a0_2 ≤ 1000))) else (some false)) else (some false)))))) else (some false)) else (some false)) = some r := H
  have A5 := Aside0.mk A50
  clear A50
  by_cases c6 : t120 = true
  ·subst c6
   have H1 : (if a0_1 ≥ 1 then (if (Int.tmod a0_1 2) = 0 then (some false) else (if (Int.tmod a0_1 5) = 0 then (some false) else (if (Int.tmod a0_0 10) = 0 then (some false) else ((whole_Gcd.f k a0_0 a0_1).bind fun t121 => (if t121 = 1 then (if a0_2 ≥ (-1000) then (some (decide (a0_2 ≤ 1000))) else (some false)) else (some false)))))) else (some false)) = some r := by rw [if_pos rfl] at H; exact H
   clear H
   have H := H1
   clear H1
   by_cases c7 : a0_1 ≥ 1
   ·rw [if_pos c7] at H
    have c7b0 : decide (1 ≤ a0_1) = true := decide_eq_true c7
    clear c7
    by_cases c8 : (Int.tmod a0_1 2) = 0
    ·rw [if_pos c8] at H
     have c8b0 : ((Int.tmod a0_1 2) == 0) = true := beq_iff_eq.mpr c8
     have c8b1 : ((Int.tmod a0_1 2) != 0) = false := bne_eq_false_iff_eq.mpr c8
     clear c8
     obtain rfl := Option.some.inj H
     go_enter Tryd.func47, Tryd.ntmps47
     go_wp2_with (first | ((with_reducible refine gate_dst (N := 1) rfl ?_); refine box_event ?hg (N := 1) ?hd (cs := #[.int .i64 a0_0, .int .i64 a0_1, .int .i64 a0_2]) (t := 29) ?hr ?_; (case hd => rfl); (case hg => rfl); (case hr => first | (go_simp; done) | (go_simp; rfl)); intro gb119 hg w9 hbox hb; have n0_ := sb HB hb; have n1_ := Aside0.mk (hbox); have n2_ := Aside0.mk ((by rw [hg]; exact (below_size (bl HB.out)) : w.heap.size ≤ gb119)); have n3_ := Aside0.mk ((by rw [hg]; exact (below_size (bl HB.out)) : w.heap.size ≤ gb119)); clear HB; have HB := n0_; have BK119 := n1_; have GW119 := n2_; have GE119 := n3_; clear n0_ n1_ n2_ n3_; clear hb hbox hg; obtain ⟨hcz10_0, hcz10_1, hcz10_2⟩ := hc3 BK119.out; obtain ⟨hfz10_0, hfz10_1, hfz10_2⟩ := hf3 BK119.out) | (go_at_call 65; (with_reducible refine (whole_Fits.calls a0_0 true _ A5.out).mono ?_); rintro e w' ⟨rfl, ⟨nd, rfl⟩⟩))
     go_ret
     exact ⟨by first | rfl | (simp [errW_none, errW_some] <;> rfl) | (simp [*, errW_none, errW_some] <;> rfl), bl HB.out⟩
    ·rw [if_neg c8] at H
     have c8b0 : ((Int.tmod a0_1 2) == 0) = false := beq_eq_false_iff_ne.mpr c8
     have c8b1 : ((Int.tmod a0_1 2) != 0) = true := bne_iff_ne.mpr c8
     by_cases c11 : (Int.tmod a0_1 5) = 0
     ·rw [if_pos c11] at H
      have c11b0 : ((Int.tmod a0_1 5) == 0) = true := beq_iff_eq.mpr c11
      have c11b1 : ((Int.tmod a0_1 5) != 0) = false := bne_eq_false_iff_eq.mpr c11
      clear c11
      obtain rfl := Option.some.inj H
      go_enter Tryd.func47, Tryd.ntmps47
      go_wp2_with (first | ((with_reducible refine gate_dst (N := 1) rfl ?_); refine box_event ?hg (N := 1) ?hd (cs := #[.int .i64 a0_0, .int .i64 a0_1, .int .i64 a0_2]) (t := 29) ?hr ?_; (case hd => rfl); (case hg => rfl); (case hr => first | (go_simp; done) | (go_simp; rfl)); intro gb119 hg w12 hbox hb; have n0_ := sb HB hb; have n1_ := Aside0.mk (hbox); have n2_ := Aside0.mk ((by rw [hg]; exact (below_size (bl HB.out)) : w.heap.size ≤ gb119)); have n3_ := Aside0.mk ((by rw [hg]; exact (below_size (bl HB.out)) : w.heap.size ≤ gb119)); clear HB; have HB := n0_; have BK119 := n1_; have GW119 := n2_; have GE119 := n3_; clear n0_ n1_ n2_ n3_; clear hb hbox hg; obtain ⟨hcz13_0, hcz13_1, hcz13_2⟩ := hc3 BK119.out; obtain ⟨hfz13_0, hfz13_1, hfz13_2⟩ := hf3 BK119.out) | (go_at_call 65; (with_reducible refine (whole_Fits.calls a0_0 true _ A5.out).mono ?_); rintro e w' ⟨rfl, ⟨nd, rfl⟩⟩))
      go_ret
      exact ⟨by first | rfl | (simp [errW_none, errW_some] <;> rfl) | (simp [*, errW_none, errW_some] <;> rfl), bl HB.out⟩
     ·rw [if_neg c11] at H
      have c11b0 : ((Int.tmod a0_1 5) == 0) = false := beq_eq_false_iff_ne.mpr c11
      have c11b1 : ((Int.tmod a0_1 5) != 0) = true := bne_iff_ne.mpr c11
      by_cases c14 : (Int.tmod a0_0 10) = 0
      ·rw [if_pos c14] at H
       have c14b0 : ((Int.tmod a0_0 10) == 0) = true := beq_iff_eq.mpr c14
       have c14b1 : ((Int.tmod a0_0 10) != 0) = false := bne_eq_false_iff_eq.mpr c14
       clear c14
       obtain rfl := Option.some.inj H
       go_enter Tryd.func47, Tryd.ntmps47
       go_wp2_with (first | ((with_reducible refine gate_dst (N := 1) rfl ?_); refine box_event ?hg (N := 1) ?hd (cs := #[.int .i64 a0_0, .int .i64 a0_1, .int .i64 a0_2]) (t := 29) ?hr ?_; (case hd => rfl); (case hg => rfl); (case hr => first | (go_simp; done) | (go_simp; rfl)); intro gb119 hg w15 hbox hb; have n0_ := sb HB hb; have n1_ := Aside0.mk (hbox); have n2_ := Aside0.mk ((by rw [hg]; exact (below_size (bl HB.out)) : w.heap.size ≤ gb119)); have n3_ := Aside0.mk ((by rw [hg]; exact (below_size (bl HB.out)) : w.heap.size ≤ gb119)); clear HB; have HB := n0_; have BK119 := n1_; have GW119 := n2_; have GE119 := n3_; clear n0_ n1_ n2_ n3_; clear hb hbox hg; obtain ⟨hcz16_0, hcz16_1, hcz16_2⟩ := hc3 BK119.out; obtain ⟨hfz16_0, hfz16_1, hfz16_2⟩ := hf3 BK119.out) | (go_at_call 65; (with_reducible refine (whole_Fits.calls a0_0 true _ A5.out).mono ?_); rintro e w' ⟨rfl, ⟨nd, rfl⟩⟩))
       go_ret
       exact ⟨by first | rfl | (simp [errW_none, errW_some] <;> rfl) | (simp [*, errW_none, errW_some] <;> rfl), bl HB.out⟩
      ·rw [if_neg c14] at H
       have c14b0 : ((Int.tmod a0_0 10) == 0) = false := beq_eq_false_iff_ne.mpr c14
       have c14b1 : ((Int.tmod a0_0 10) != 0) = true := bne_iff_ne.mpr c14
       replace H := Option.bind_eq_some_iff.mp H
       obtain ⟨t121, A170, H⟩ := H
       replace H : (if t121 = 1 then (if a0_2 ≥ (-1000) then (some (decide (a0_2 ≤ 1000))) else (some false)) else (some false)) = some r := H
       have A17 := Aside0.mk A170
       clear A170
       by_cases c18 : t121 = 1
       ·rw [if_pos c18] at H
        have c18b0 : (t121 == 1) = true := beq_iff_eq.mpr c18
        have c18b1 : (t121 != 1) = false := bne_eq_false_iff_eq.mpr c18
        clear c18
        by_cases c19 : a0_2 ≥ (-1000)
        ·rw [if_pos c19] at H
         have c19b0 : decide ((-1000) ≤ a0_2) = true := decide_eq_true c19
         clear c19
         obtain rfl := Option.some.inj H
         go_enter Tryd.func47, Tryd.ntmps47
         go_wp2_with (first | ((with_reducible refine gate_dst (N := 1) rfl ?_); refine box_event ?hg (N := 1) ?hd (cs := #[.int .i64 a0_0, .int .i64 a0_1, .int .i64 a0_2]) (t := 29) ?hr ?_; (case hd => rfl); (case hg => rfl); (case hr => first | (go_simp; done) | (go_simp; rfl)); intro gb119 hg w20 hbox hb; have n0_ := sb HB hb; have n1_ := Aside0.mk (hbox); have n2_ := Aside0.mk ((by rw [hg]; exact (below_size (bl HB.out)) : w.heap.size ≤ gb119)); have n3_ := Aside0.mk ((by rw [hg]; exact (below_size (bl HB.out)) : w.heap.size ≤ gb119)); clear HB; have HB := n0_; have BK119 := n1_; have GW119 := n2_; have GE119 := n3_; clear n0_ n1_ n2_ n3_; clear hb hbox hg; obtain ⟨hcz21_0, hcz21_1, hcz21_2⟩ := hc3 BK119.out; obtain ⟨hfz21_0, hfz21_1, hfz21_2⟩ := hf3 BK119.out) | (go_at_call 65; (with_reducible refine (whole_Fits.calls a0_0 true _ A5.out).mono ?_); rintro e w' ⟨rfl, ⟨nd, rfl⟩⟩) | (go_at_call 77; (with_reducible refine (whole_Gcd.calls k a0_0 a0_1 t121 _ A17.out).mono ?_); rintro e w22 ⟨rfl, hb⟩; replace BK119 := kb BK119 hb; replace HB := sb HB hb; (try clear hb); (try clear hb2); (try clear hk); (try clear hi); obtain ⟨hcz23_0, hcz23_1, hcz23_2⟩ := hc3 BK119.out; obtain ⟨hfz23_0, hfz23_1, hfz23_2⟩ := hf3 BK119.out))
         go_ret
         exact ⟨by first | rfl | (simp [errW_none, errW_some] <;> rfl) | (simp [*, errW_none, errW_some] <;> rfl), bl HB.out⟩
        ·rw [if_neg c19] at H
         have c19b0 : decide ((-1000) ≤ a0_2) = false := decide_eq_false c19
         clear c19
         obtain rfl := Option.some.inj H
         go_enter Tryd.func47, Tryd.ntmps47
         go_wp2_with (first | ((with_reducible refine gate_dst (N := 1) rfl ?_); refine box_event ?hg (N := 1) ?hd (cs := #[.int .i64 a0_0, .int .i64 a0_1, .int .i64 a0_2]) (t := 29) ?hr ?_; (case hd => rfl); (case hg => rfl); (case hr => first | (go_simp; done) | (go_simp; rfl)); intro gb119 hg w24 hbox hb; have n0_ := sb HB hb; have n1_ := Aside0.mk (hbox); have n2_ := Aside0.mk ((by rw [hg]; exact (below_size (bl HB.out)) : w.heap.size ≤ gb119)); have n3_ := Aside0.mk ((by rw [hg]; exact (below_size (bl HB.out)) : w.heap.size ≤ gb119)); clear HB; have HB := n0_; have BK119 := n1_; have GW119 := n2_; have GE119 := n3_; clear n0_ n1_ n2_ n3_; clear hb hbox hg; obtain ⟨hcz25_0, hcz25_1, hcz25_2⟩ := hc3 BK119.out; obtain ⟨hfz25_0, hfz25_1, hfz25_2⟩ := hf3 BK119.out) | (go_at_call 65; (with_reducible refine (whole_Fits.calls a0_0 true _ A5.out).mono ?_); rintro e w' ⟨rfl, ⟨nd, rfl⟩⟩) | (go_at_call 77; (with_reducible refine (whole_Gcd.calls k a0_0 a0_1 t121 _ A17.out).mono ?_); rintro e w26 ⟨rfl, hb⟩; replace BK119 := kb BK119 hb; replace HB := sb HB hb; (try clear hb); (try clear hb2); (try clear hk); (try clear hi); obtain ⟨hcz27_0, hcz27_1, hcz27_2⟩ := hc3 BK119.out; obtain ⟨hfz27_0, hfz27_1, hfz27_2⟩ := hf3 BK119.out))
         go_ret
         exact ⟨by first | rfl | (simp [errW_none, errW_some] <;> rfl) | (simp [*, errW_none, errW_some] <;> rfl), bl HB.out⟩
       ·rw [if_neg c18] at H
        have c18b0 : (t121 == 1) = false := beq_eq_false_iff_ne.mpr c18
        have c18b1 : (t121 != 1) = true := bne_iff_ne.mpr c18
        obtain rfl := Option.some.inj H
        go_enter Tryd.func47, Tryd.ntmps47
        go_wp2_with (first | ((with_reducible refine gate_dst (N := 1) rfl ?_); refine box_event ?hg (N := 1) ?hd (cs := #[.int .i64 a0_0, .int .i64 a0_1, .int .i64 a0_2]) (t := 29) ?hr ?_; (case hd => rfl); (case hg => rfl); (case hr => first | (go_simp; done) | (go_simp; rfl)); intro gb119 hg w28 hbox hb; have n0_ := sb HB hb; have n1_ := Aside0.mk (hbox); have n2_ := Aside0.mk ((by rw [hg]; exact (below_size (bl HB.out)) : w.heap.size ≤ gb119)); have n3_ := Aside0.mk ((by rw [hg]; exact (below_size (bl HB.out)) : w.heap.size ≤ gb119)); clear HB; have HB := n0_; have BK119 := n1_; have GW119 := n2_; have GE119 := n3_; clear n0_ n1_ n2_ n3_; clear hb hbox hg; obtain ⟨hcz29_0, hcz29_1, hcz29_2⟩ := hc3 BK119.out; obtain ⟨hfz29_0, hfz29_1, hfz29_2⟩ := hf3 BK119.out) | (go_at_call 65; (with_reducible refine (whole_Fits.calls a0_0 true _ A5.out).mono ?_); rintro e w' ⟨rfl, ⟨nd, rfl⟩⟩) | (go_at_call 77; (with_reducible refine (whole_Gcd.calls k a0_0 a0_1 t121 _ A17.out).mono ?_); rintro e w30 ⟨rfl, hb⟩; replace BK119 := kb BK119 hb; replace HB := sb HB hb; (try clear hb); (try clear hb2); (try clear hk); (try clear hi)))
        go_ret
        exact ⟨by first | rfl | (simp [errW_none, errW_some] <;> rfl) | (simp [*, errW_none, errW_some] <;> rfl), bl HB.out⟩
   ·rw [if_neg c7] at H
    have c7b0 : decide (1 ≤ a0_1) = false := decide_eq_false c7
    clear c7
    obtain rfl := Option.some.inj H
    go_enter Tryd.func47, Tryd.ntmps47
    go_wp2_with (first | ((with_reducible refine gate_dst (N := 1) rfl ?_); refine box_event ?hg (N := 1) ?hd (cs := #[.int .i64 a0_0, .int .i64 a0_1, .int .i64 a0_2]) (t := 29) ?hr ?_; (case hd => rfl); (case hg => rfl); (case hr => first | (go_simp; done) | (go_simp; rfl)); intro gb119 hg w31 hbox hb; have n0_ := sb HB hb; have n1_ := Aside0.mk (hbox); have n2_ := Aside0.mk ((by rw [hg]; exact (below_size (bl HB.out)) : w.heap.size ≤ gb119)); have n3_ := Aside0.mk ((by rw [hg]; exact (below_size (bl HB.out)) : w.heap.size ≤ gb119)); clear HB; have HB := n0_; have BK119 := n1_; have GW119 := n2_; have GE119 := n3_; clear n0_ n1_ n2_ n3_; clear hb hbox hg; obtain ⟨hcz32_0, hcz32_1, hcz32_2⟩ := hc3 BK119.out; obtain ⟨hfz32_0, hfz32_1, hfz32_2⟩ := hf3 BK119.out) | (go_at_call 65; (with_reducible refine (whole_Fits.calls a0_0 true _ A5.out).mono ?_); rintro e w' ⟨rfl, ⟨nd, rfl⟩⟩))
    go_ret
    exact ⟨by first | rfl | (simp [errW_none, errW_some] <;> rfl) | (simp [*, errW_none, errW_some] <;> rfl), bl HB.out⟩
  ·replace c6 := Bool.eq_false_iff.mpr c6
   subst c6
   have H1 : (some false) = some r := by rw [if_neg (show ¬ (false = true) by decide)] at H; exact H
   clear H
   have H := H1
   clear H1
   obtain rfl := Option.some.inj H
   go_enter Tryd.func47, Tryd.ntmps47
   go_wp2_with (first | ((with_reducible refine gate_dst (N := 1) rfl ?_); refine box_event ?hg (N := 1) ?hd (cs := #[.int .i64 a0_0, .int .i64 a0_1, .int .i64 a0_2]) (t := 29) ?hr ?_; (case hd => rfl); (case hg => rfl); (case hr => first | (go_simp; done) | (go_simp; rfl)); intro gb119 hg w33 hbox hb; have n0_ := sb HB hb; have n1_ := Aside0.mk (hbox); have n2_ := Aside0.mk ((by rw [hg]; exact (below_size (bl HB.out)) : w.heap.size ≤ gb119)); have n3_ := Aside0.mk ((by rw [hg]; exact (below_size (bl HB.out)) : w.heap.size ≤ gb119)); clear HB; have HB := n0_; have BK119 := n1_; have GW119 := n2_; have GE119 := n3_; clear n0_ n1_ n2_ n3_; clear hb hbox hg; obtain ⟨hcz34_0, hcz34_1, hcz34_2⟩ := hc3 BK119.out; obtain ⟨hfz34_0, hfz34_1, hfz34_2⟩ := hf3 BK119.out) | (go_at_call 65; (with_reducible refine (whole_Fits.calls a0_0 false _ A5.out).mono ?_); rintro e w' ⟨rfl, ⟨nd, rfl⟩⟩))
   go_ret
   exact ⟨by first | rfl | (simp [errW_none, errW_some] <;> rfl) | (simp [*, errW_none, errW_some] <;> rfl), bl HB.out⟩

/-! ### drachmref01_Fits: function 49 -/
def drachmref01_Fits.f (a0 : Int) : Option (Bool) := some (decide (a0 ≥ (-9223372036854775807)))
set_option maxHeartbeats 8000000 in
set_option maxRecDepth 100000 in
theorem drachmref01_Fits.calls (a0 : Int) (r : Bool) (w : World) (h : drachmref01_Fits.f a0 = some r) :
  Calls Tryd.prog 49 #[.int .i64 a0] w fun e w' => e = .returned (.bool r) ∧ Drawn0 w w' := by
 have H : (some (decide (a0 ≥ (-9223372036854775807)))) = some r := h
 clear h
 obtain rfl := Option.some.inj H
 go_enter Tryd.func49, Tryd.ntmps49
 go_wp2
 go_ret
 exact ⟨by first | rfl | (simp; done) | (simp [*]; done), by repeat (first | exact Drawn0.refl _ | apply Drawn0.step)⟩

/-! ### drachmref01_size: function 83 -/
def drachmref01_size.f (a0 : Int) : Option (Int) := if a0 < 0 then (some (wrap64 (-a0))) else (some a0)
set_option maxHeartbeats 8000000 in
set_option maxRecDepth 100000 in
theorem drachmref01_size.calls (a0 : Int) (r : Int) (w : World) (h : drachmref01_size.f a0 = some r) :
  Calls Tryd.prog 83 #[.int .i64 a0] w fun e w' => e = .returned (.int .i64 r) ∧ Drawn0 w w' := by
 have H : (if a0 < 0 then (some (wrap64 (-a0))) else (some a0)) = some r := h
 clear h
 by_cases c2 : a0 < 0
 ·rw [if_pos c2] at H
  have c2b0 : decide (a0 < 0) = true := decide_eq_true c2
  clear c2
  obtain rfl := Option.some.inj H
  go_enter Tryd.func83, Tryd.ntmps83
  go_wp2
  go_ret
  exact ⟨by first | rfl | (simp; done) | (simp [*]; done), by repeat (first | exact Drawn0.refl _ | apply Drawn0.step)⟩
 ·rw [if_neg c2] at H
  have c2b0 : decide (a0 < 0) = false := decide_eq_false c2
  clear c2
  obtain rfl := Option.some.inj H
  go_enter Tryd.func83, Tryd.ntmps83
  go_wp2
  go_ret
  exact ⟨by first | rfl | (simp; done) | (simp [*]; done), by repeat (first | exact Drawn0.refl _ | apply Drawn0.step)⟩

/-! ### drachmref01_Mul: function 78 -/
def drachmref01_Mul.j0 : Nat → Int → Int → Bool → Option (Int × Bool)
 | 0, _, _, _ => none
 | k + 1, x0, x1, x16 => if x16 = true then (some (0, false)) else (if x0 = 0 then (some (wrap64 (x0 * x1), true)) else ((drachmref01_size.f x1).bind fun t125 => ((drachmref01_size.f x0).bind fun t126 => (if t126 = 0 then (none) else (if t125 > (wrap64 (Int.tdiv (9223372036854775807 : Int) t126)) then (some (0, false)) else (some (wrap64 (x0 * x1), true)))))))
def drachmref01_Mul.f (k : Nat) (a0 : Int) (a1 : Int) : Option (Int × Bool) := (drachmref01_Fits.f a0).bind fun t123 => ((drachmref01_Fits.f a1).bind fun t124 => (if t123 = true then (drachmref01_Mul.j0 k a0 a1 (!t124)) else (drachmref01_Mul.j0 k a0 a1 true)))
theorem drachmref01_Mul.mono_l : ∀ k, (∀ y0 y1 y2, LeO (drachmref01_Mul.j0 k y0 y1 y2) (drachmref01_Mul.j0 (k + 1) y0 y1 y2))
 | 0 => fun _ _ _ r h => by simp [drachmref01_Mul.j0] at h
 | k + 1 => by
  have ih0 := drachmref01_Mul.mono_l k
  ·intro y0 y1 y2
   unfold drachmref01_Mul.j0
   repeat' first
   | (with_reducible exact ih0 _ _ _)
   | (with_reducible exact LeO.refl _)
   | (with_reducible exact LeO.none _)
   | (with_reducible refine LeO.ite ?_ ?_)
   | (with_reducible refine LeO.bind ?_ (fun _ => ?_))
   | exact ih0 _ _ _
   | exact LeO.none _
   | refine LeO.ite ?_ ?_
   | refine LeO.bind ?_ (fun _ => ?_)
theorem drachmref01_Mul.mono : ∀ a0 a1 k, LeO (drachmref01_Mul.f k a0 a1) (drachmref01_Mul.f (k + 1) a0 a1) := by
 intro a0 a1 k
 have ih0 := drachmref01_Mul.mono_l k
 unfold drachmref01_Mul.f
 repeat' first
   | (with_reducible exact ih0 _ _ _)
   | (with_reducible exact LeO.refl _)
   | (with_reducible exact LeO.none _)
   | (with_reducible refine LeO.ite ?_ ?_)
   | (with_reducible refine LeO.bind ?_ (fun _ => ?_))
   | exact ih0 _ _ _
   | exact LeO.none _
   | refine LeO.ite ?_ ?_
   | refine LeO.bind ?_ (fun _ => ?_)
set_option maxHeartbeats 8000000 in
set_option maxRecDepth 100000 in
theorem drachmref01_Mul.calls (k : Nat) (a0 : Int) (a1 : Int) (r1 : Int) (r2 : Bool) (w : World) (h : drachmref01_Mul.f k a0 a1 = some (r1, r2)) :
  Calls Tryd.prog 78 #[.int .i64 a0, .int .i64 a1] w fun e w' => e = .returned (.agg #[.int .i64 r1, .bool r2]) ∧ Below w.heap.size w w' := by
 have hu114 := Tryd.underlying114
 have HB := Aside0.mk (Below.refl w.heap.size w)
 have H : ((drachmref01_Fits.f a0).bind fun t123 => ((drachmref01_Fits.f a1).bind fun t124 => (if t123 = true then (drachmref01_Mul.j0 k a0 a1 (!t124)) else (drachmref01_Mul.j0 k a0 a1 true)))) = some (r1, r2) := h
 clear h
 replace H := Option.bind_eq_some_iff.mp H
 obtain ⟨t123, A30, H⟩ := H
 replace H : ((drachmref01_Fits.f a1).bind fun t124 => (if t123 = true then (drachmref01_Mul.j0 k a0 a1 (!t124)) else (drachmref01_Mul.j0 k a0 a1 true))) = some (r1, r2) := H
 have A3 := Aside0.mk A30
 clear A30
 replace H := Option.bind_eq_some_iff.mp H
 obtain ⟨t124, A40, H⟩ := H
 replace H : (if t123 = true then (drachmref01_Mul.j0 k a0 a1 (!t124)) else (drachmref01_Mul.j0 k a0 a1 true)) = some (r1, r2) := H
 have A4 := Aside0.mk A40
 clear A40
 have HC5 := Aside0.mk H
 clear H
 go_enter Tryd.func78, Tryd.ntmps78
 go_upto_region 3 with (first | ((with_reducible refine gate_dst (N := 4) rfl ?_); refine box_event ?hg (N := 4) ?hd (cs := #[.int .i64 0, .bool false]) (t := 114) ?hr ?_; (case hd => rfl); (case hg => rfl); (case hr => first | (go_simp; done) | (go_simp; rfl)); intro gb122 hg w6 hbox hb; have n0_ := sb HB hb; have n1_ := Aside0.mk (hbox); have n2_ := Aside0.mk ((by rw [hg]; exact (below_size (bl HB.out)) : w.heap.size ≤ gb122)); have n3_ := Aside0.mk ((by rw [hg]; exact (below_size (bl HB.out)) : w.heap.size ≤ gb122)); clear HB; have HB := n0_; have BK122 := n1_; have GW122 := n2_; have GE122 := n3_; clear n0_ n1_ n2_ n3_; clear hb hbox hg) | (go_at_call 49; (with_reducible refine (drachmref01_Fits.calls a0 t123 _ A3.out).mono ?_); rintro e w' ⟨rfl, ⟨nd, rfl⟩⟩) | (go_at_call 49; (with_reducible refine (drachmref01_Fits.calls a1 t124 _ A4.out).mono ?_); rintro e w' ⟨rfl, ⟨nd, rfl⟩⟩))
 (try simp only [Act.put, List.setIfInBounds_toArray, List.set_cons_zero, List.set_cons_succ])
 go_cut [16] (fun v16 wc => ∃ (kq : Nat) (x16_4 : Bool), v16 = .bool x16_4 ∧ Aside0 (drachmref01_Mul.j0 kq a0 a1 x16_4 = some (r1, r2)) ∧ Aside0 (kq ≤ k) ∧ Aside0 (wc.heap[gb122]? = some (.cells #[.int .i64 0, .bool false] 114 (0, 0))) ∧ Aside0 (Below w.heap.size w wc))
 case first =>
  have H := HC5.out
  clear HC5
  by_cases c7 : t123 = true
  ·subst c7
   have H1 : (drachmref01_Mul.j0 k a0 a1 (!t124)) = some (r1, r2) := by rw [if_pos rfl] at H; exact H
   clear H
   have H := H1
   clear H1
   have H' := Aside0.mk H
   clear H
   go_wp2
   go_meet
   case rel => exact ⟨_, (!t124), (by first | rfl | (simp; done) | (simp [*]; done)), H', ⟨by first | omega | exact Nat.le_refl _⟩, ⟨kp BK122.out⟩, ⟨bl HB.out⟩⟩
  ·replace c7 := Bool.eq_false_iff.mpr c7
   subst c7
   have H1 : (drachmref01_Mul.j0 k a0 a1 true) = some (r1, r2) := by rw [if_neg (show ¬ (false = true) by decide)] at H; exact H
   clear H
   have H := H1
   clear H1
   have H' := Aside0.mk H
   clear H
   go_wp2
   go_meet
   case rel => exact ⟨_, (true), (by first | rfl | (simp; done) | (simp [*]; done)), H', ⟨by first | omega | exact Nat.le_refl _⟩, ⟨kp BK122.out⟩, ⟨bl HB.out⟩⟩
 case rest =>
  clear HC5
  try clear p2
  try clear c4
  try clear c7
  obtain ⟨kq, x16_4, rfl, HA, HJ4, BK122, HB⟩ := hcut
  cases kq with
  | zero => exact absurd HA.out (by simp [drachmref01_Mul.j0])
  | succ kj4 =>
   have H := HA.out
   clear HA
   simp only [drachmref01_Mul.j0] at H
   by_cases c8 : x16_4 = true
   ·subst c8
    have H1 : (some (0, false)) = some (r1, r2) := by rw [if_pos rfl] at H; exact H
    clear H
    have H := H1
    clear H1
    simp only [Option.some.injEq, Prod.mk.injEq] at H
    obtain ⟨rfl, rfl⟩ := H
    obtain ⟨hcz9_0, hcz9_1⟩ := hc2 BK122.out
    obtain ⟨hfz9_0, hfz9_1⟩ := hf2 BK122.out
    go_wp2
    refine bodyPost_ret (results_cell_row rfl _ _ gb122 114 #[.int .i64 0, .bool false] (0, 0) _ rfl (kp (p2_1 (kp (p2_0 (kp BK122.out))))) Tryd.underlying114 rfl (by kernel_rfl)) rfl ?_
    exact ⟨by first | rfl | (simp [errW_none, errW_some] <;> rfl) | (simp [*, errW_none, errW_some] <;> rfl), bl HB.out⟩
   ·replace c8 := Bool.eq_false_iff.mpr c8
    subst c8
    have H1 : (if a0 = 0 then (some (wrap64 (a0 * a1), true)) else ((drachmref01_size.f a1).bind fun t125 => ((drachmref01_size.f a0).bind fun t126 => (if t126 = 0 then (none) else (if t125 > (wrap64 (Int.tdiv (9223372036854775807 : Int) t126)) then (some (0, false)) else (some (wrap64 (a0 * a1), true))))))) = some (r1, r2) := by rw [if_neg (show ¬ (false = true) by decide)] at H; exact H
    clear H
    have H := H1
    clear H1
    by_cases c10 : a0 = 0
    ·rw [if_pos c10] at H
     have c10b0 : (a0 == 0) = true := beq_iff_eq.mpr c10
     have c10b1 : (a0 != 0) = false := bne_eq_false_iff_eq.mpr c10
     clear c10
     simp only [Option.some.injEq, Prod.mk.injEq] at H
     obtain ⟨rfl, rfl⟩ := H
     obtain ⟨hcz11_0, hcz11_1⟩ := hc2 BK122.out
     obtain ⟨hfz11_0, hfz11_1⟩ := hf2 BK122.out
     go_wp2
     refine bodyPost_ret (results_cell_row rfl _ _ gb122 114 #[.int .i64 (wrap64 (a0 * a1)), .bool true] (0, 0) _ rfl (kp (p2_1 (kp (p2_0 (kp BK122.out))))) Tryd.underlying114 rfl (by kernel_rfl)) rfl ?_
     exact ⟨by first | rfl | (simp [errW_none, errW_some] <;> rfl) | (simp [*, errW_none, errW_some] <;> rfl), bl HB.out⟩
    ·rw [if_neg c10] at H
     have c10b0 : (a0 == 0) = false := beq_eq_false_iff_ne.mpr c10
     have c10b1 : (a0 != 0) = true := bne_iff_ne.mpr c10
     replace H := Option.bind_eq_some_iff.mp H
     obtain ⟨t125, A120, H⟩ := H
     replace H : ((drachmref01_size.f a0).bind fun t126 => (if t126 = 0 then (none) else (if t125 > (wrap64 (Int.tdiv (9223372036854775807 : Int) t126)) then (some (0, false)) else (some (wrap64 (a0 * a1), true))))) = some (r1, r2) := H
     have A12 := Aside0.mk A120
     clear A120
     replace H := Option.bind_eq_some_iff.mp H
     obtain ⟨t126, A130, H⟩ := H
     replace H : (if t126 = 0 then (none) else (if t125 > (wrap64 (Int.tdiv (9223372036854775807 : Int) t126)) then (some (0, false)) else (some (wrap64 (a0 * a1), true)))) = some (r1, r2) := H
     have A13 := Aside0.mk A130
     clear A130
     by_cases c14 : t126 = 0
     ·rw [if_pos c14] at H
      exact absurd H (by simp)
     ·rw [if_neg c14] at H
      have c14b0 : (t126 == 0) = false := beq_eq_false_iff_ne.mpr c14
      have c14b1 : (t126 != 0) = true := bne_iff_ne.mpr c14
      by_cases c15 : t125 > (wrap64 (Int.tdiv (9223372036854775807 : Int) t126))
      ·rw [if_pos c15] at H
       have c15b0 : decide ((wrap64 (Int.tdiv (9223372036854775807 : Int) t126)) < t125) = true := decide_eq_true c15
       clear c15
       simp only [Option.some.injEq, Prod.mk.injEq] at H
       obtain ⟨rfl, rfl⟩ := H
       go_wp2_with (first | (go_at_call 83; (with_reducible refine (drachmref01_size.calls a1 t125 _ A12.out).mono ?_); rintro e w' ⟨rfl, ⟨nd, rfl⟩⟩; (try (rw [drewN_self wc]; generalize hq_ : World.drewN wc _ = wc; replace BK122 := Aside0.mk (kq hq_ BK122.out); replace HB := Aside0.mk (bq hq_ HB.out); clear hq_))) | (go_at_call 83; (with_reducible refine (drachmref01_size.calls a0 t126 _ A13.out).mono ?_); rintro e w' ⟨rfl, ⟨nd, rfl⟩⟩; (try (rw [drewN_self wc]; generalize hq_ : World.drewN wc _ = wc; replace BK122 := Aside0.mk (kq hq_ BK122.out); replace HB := Aside0.mk (bq hq_ HB.out); clear hq_)); obtain ⟨hcz16_0, hcz16_1⟩ := hc2 BK122.out; obtain ⟨hfz16_0, hfz16_1⟩ := hf2 BK122.out))
       refine bodyPost_ret (results_cell_row rfl _ _ gb122 114 #[.int .i64 0, .bool false] (0, 0) _ rfl (kp (p2_1 (kp (p2_0 (kp BK122.out))))) Tryd.underlying114 rfl (by kernel_rfl)) rfl ?_
       exact ⟨by first | rfl | (simp [errW_none, errW_some] <;> rfl) | (simp [*, errW_none, errW_some] <;> rfl), bl HB.out⟩
      ·rw [if_neg c15] at H
       have c15b0 : decide ((wrap64 (Int.tdiv (9223372036854775807 : Int) t126)) < t125) = false := decide_eq_false c15
       clear c15
       simp only [Option.some.injEq, Prod.mk.injEq] at H
       obtain ⟨rfl, rfl⟩ := H
       go_wp2_with (first | (go_at_call 83; (with_reducible refine (drachmref01_size.calls a1 t125 _ A12.out).mono ?_); rintro e w' ⟨rfl, ⟨nd, rfl⟩⟩; (try (rw [drewN_self wc]; generalize hq_ : World.drewN wc _ = wc; replace BK122 := Aside0.mk (kq hq_ BK122.out); replace HB := Aside0.mk (bq hq_ HB.out); clear hq_))) | (go_at_call 83; (with_reducible refine (drachmref01_size.calls a0 t126 _ A13.out).mono ?_); rintro e w' ⟨rfl, ⟨nd, rfl⟩⟩; (try (rw [drewN_self wc]; generalize hq_ : World.drewN wc _ = wc; replace BK122 := Aside0.mk (kq hq_ BK122.out); replace HB := Aside0.mk (bq hq_ HB.out); clear hq_)); obtain ⟨hcz17_0, hcz17_1⟩ := hc2 BK122.out; obtain ⟨hfz17_0, hfz17_1⟩ := hf2 BK122.out))
       refine bodyPost_ret (results_cell_row rfl _ _ gb122 114 #[.int .i64 (wrap64 (a0 * a1)), .bool true] (0, 0) _ rfl (kp (p2_1 (kp (p2_0 (kp BK122.out))))) Tryd.underlying114 rfl (by kernel_rfl)) rfl ?_
       exact ⟨by first | rfl | (simp [errW_none, errW_some] <;> rfl) | (simp [*, errW_none, errW_some] <;> rfl), bl HB.out⟩

/-! ### drachmref02_form: function 50 -/
mutual
def drachmref02_form.j0 : Nat → Int → Int → Int → Int → Int → Int → Int → Int → Int → Option (Int × Int × Int × Int)
 | 0, _, _, _, _, _, _, _, _, _ => none
 | k + 1, x1, x5, x6, x7, x128000, x128001, x128002, x128003, x128004 => drachmref02_form.l0 k x1 x5 x6 x7 x128001 0 x128000 x128001 x128002 x128003 x128004
def drachmref02_form.l0 : Nat → Int → Int → Int → Int → Int → Int → Int → Int → Int → Int → Int → Option (Int × Int × Int × Int)
 | 0, _, _, _, _, _, _, _, _, _, _, _ => none
 | k + 1, x1, x5, x6, x7, x8, x9, x128000, x128001, x128002, x128003, x128004 => if x9 < x7 then ((drachmref01_Mul.f k x8 x5).bind fun bt129 => (if bt129.2 = true then (drachmref02_form.l0 k x1 x5 x6 x7 bt129.1 (wrap64 (x9 + 1)) x128000 x128001 x128002 x128003 x128004) else (some (0, 0, 0, 10)))) else (if x1 < (-2000) then (some (0, 0, 0, 10)) else (if x1 > 2000 then (some (0, 0, 0, 10)) else (if (wrap64 (x1 + x6)) < (-1000) then (some (0, 0, 0, 10)) else (if (wrap64 (x1 + x6)) > 1000 then (some (0, 0, 0, 10)) else (some (wrap64 (x128000 * x8), x128002, wrap64 (x1 + x6), 0))))))
end
def drachmref02_form.f (k : Nat) (a0_0 : Int) (a0_1 : Int) (a0_2 : Int) (a0_3 : Int) (a0_4 : Int) (a1 : Int) : Option (Int × Int × Int × Int) := if a0_4 > a0_3 then (drachmref02_form.j0 k a1 5 a0_3 (wrap64 (a0_4 - a0_3)) a0_0 a0_1 a0_2 a0_3 a0_4) else (drachmref02_form.j0 k a1 2 a0_4 (wrap64 (a0_3 - a0_4)) a0_0 a0_1 a0_2 a0_3 a0_4)
theorem drachmref02_form.mono_l : ∀ k, (∀ y0 y1 y2 y3 y4 y5 y6 y7 y8, LeO (drachmref02_form.j0 k y0 y1 y2 y3 y4 y5 y6 y7 y8) (drachmref02_form.j0 (k + 1) y0 y1 y2 y3 y4 y5 y6 y7 y8)) ∧ (∀ y0 y1 y2 y3 y4 y5 y6 y7 y8 y9 y10, LeO (drachmref02_form.l0 k y0 y1 y2 y3 y4 y5 y6 y7 y8 y9 y10) (drachmref02_form.l0 (k + 1) y0 y1 y2 y3 y4 y5 y6 y7 y8 y9 y10))
 | 0 => ⟨fun _ _ _ _ _ _ _ _ _ r h => by simp [drachmref02_form.j0] at h, fun _ _ _ _ _ _ _ _ _ _ _ r h => by simp [drachmref02_form.l0] at h⟩
 | k + 1 => by
  obtain ⟨ih0, ih1⟩ := drachmref02_form.mono_l k
  refine ⟨?_, ?_⟩
  ·intro y0 y1 y2 y3 y4 y5 y6 y7 y8
   unfold drachmref02_form.j0
   repeat' first
   | (with_reducible exact ih0 _ _ _ _ _ _ _ _ _)
   | (with_reducible exact ih1 _ _ _ _ _ _ _ _ _ _ _)
   | (with_reducible exact drachmref01_Mul.mono _ _ _)
   | (with_reducible exact LeO.refl _)
   | (with_reducible exact LeO.none _)
   | (with_reducible refine LeO.ite ?_ ?_)
   | (with_reducible refine LeO.bind ?_ (fun _ => ?_))
   | exact ih0 _ _ _ _ _ _ _ _ _
   | exact ih1 _ _ _ _ _ _ _ _ _ _ _
   | exact drachmref01_Mul.mono _ _ _
   | exact LeO.none _
   | refine LeO.ite ?_ ?_
   | refine LeO.bind ?_ (fun _ => ?_)
  ·intro y0 y1 y2 y3 y4 y5 y6 y7 y8 y9 y10
   unfold drachmref02_form.l0
   repeat' first
   | (with_reducible exact ih0 _ _ _ _ _ _ _ _ _)
   | (with_reducible exact ih1 _ _ _ _ _ _ _ _ _ _ _)
   | (with_reducible exact drachmref01_Mul.mono _ _ _)
   | (with_reducible exact LeO.refl _)
   | (with_reducible exact LeO.none _)
   | (with_reducible refine LeO.ite ?_ ?_)
   | (with_reducible refine LeO.bind ?_ (fun _ => ?_))
   | exact ih0 _ _ _ _ _ _ _ _ _
   | exact ih1 _ _ _ _ _ _ _ _ _ _ _
   | exact drachmref01_Mul.mono _ _ _
   | exact LeO.none _
   | refine LeO.ite ?_ ?_
   | refine LeO.bind ?_ (fun _ => ?_)
theorem drachmref02_form.mono : ∀ a0 a1 a2 a3 a4 a5 k, LeO (drachmref02_form.f k a0 a1 a2 a3 a4 a5) (drachmref02_form.f (k + 1) a0 a1 a2 a3 a4 a5) := by
 intro a0 a1 a2 a3 a4 a5 k
 obtain ⟨ih0, ih1⟩ := drachmref02_form.mono_l k
 unfold drachmref02_form.f
 repeat' first
   | (with_reducible exact ih0 _ _ _ _ _ _ _ _ _)
   | (with_reducible exact ih1 _ _ _ _ _ _ _ _ _ _ _)
   | (with_reducible exact drachmref01_Mul.mono _ _ _)
   | (with_reducible exact LeO.refl _)
   | (with_reducible exact LeO.none _)
   | (with_reducible refine LeO.ite ?_ ?_)
   | (with_reducible refine LeO.bind ?_ (fun _ => ?_))
   | exact ih0 _ _ _ _ _ _ _ _ _
   | exact ih1 _ _ _ _ _ _ _ _ _ _ _
   | exact drachmref01_Mul.mono _ _ _
   | exact LeO.none _
   | refine LeO.ite ?_ ?_
   | refine LeO.bind ?_ (fun _ => ?_)
set_option maxHeartbeats 8000000 in
set_option maxRecDepth 100000 in
theorem drachmref02_form.calls (k : Nat) (a0_0 : Int) (a0_1 : Int) (a0_2 : Int) (a0_3 : Int) (a0_4 : Int) (a1 : Int) (r1 : Int) (r2 : Int) (r3 : Int) (r4 : Int) (w : World) (h : drachmref02_form.f k a0_0 a0_1 a0_2 a0_3 a0_4 a1 = some (r1, r2, r3, r4)) :
  Calls Tryd.prog 50 #[.agg #[.int .i64 a0_0, .int .i64 a0_1, .int .i64 a0_2, .int .i64 a0_3, .int .i64 a0_4], .int .i64 a1] w fun e w' => e = .returned (.agg #[.int .i64 r1, .int .i64 r2, .int .i64 r3, .int .i64 r4]) ∧ Below w.heap.size w w' := by
 have hu79 := Tryd.underlying79
 have hu54 := Tryd.underlying54
 have hu114 := Tryd.underlying114
 have hu29 := Tryd.underlying29
 have HB := Aside0.mk (Below.refl w.heap.size w)
 have H : (if a0_4 > a0_3 then (drachmref02_form.j0 k a1 5 a0_3 (wrap64 (a0_4 - a0_3)) a0_0 a0_1 a0_2 a0_3 a0_4) else (drachmref02_form.j0 k a1 2 a0_4 (wrap64 (a0_3 - a0_4)) a0_0 a0_1 a0_2 a0_3 a0_4)) = some (r1, r2, r3, r4) := h
 clear h
 have HC3 := Aside0.mk H
 clear H
 go_enter Tryd.func50, Tryd.ntmps50
 go_upto_if 22 with (first | ((with_reducible refine gate_dst (N := 2) rfl ?_); refine box_event ?hg (N := 2) ?hd (cs := #[.int .i64 a0_0, .int .i64 a0_1, .int .i64 a0_2, .int .i64 a0_3, .int .i64 a0_4]) (t := 79) ?hr ?_; (case hd => rfl); (case hg => rfl); (case hr => first | (go_simp; done) | (go_simp; rfl)); intro gb127 hg w4 hbox hb; have n0_ := sb HB hb; have n1_ := Aside0.mk (hbox); have n2_ := Aside0.mk ((by rw [hg]; exact (below_size (bl HB.out)) : w.heap.size ≤ gb127)); have n3_ := Aside0.mk ((by rw [hg]; exact (below_size (bl HB.out)) : w.heap.size ≤ gb127)); clear HB; have HB := n0_; have BK127 := n1_; have GW127 := n2_; have GE127 := n3_; clear n0_ n1_ n2_ n3_; clear hb hbox hg) | ((with_reducible refine gate_dst (N := 4) rfl ?_); refine box_event ?hg (N := 4) ?hd (cs := #[.int .i64 0, .int .i64 0, .int .i64 0, .int .i64 0]) (t := 54) ?hr ?_; (case hd => rfl); (case hg => rfl); (case hr => first | (go_simp; done) | (go_simp; rfl)); intro gb128 hg w5 hbox hb; have n0_ := kb BK127 hb; have n1_ := sb HB hb; have n2_ := Aside0.mk (hbox); have n3_ := Aside0.mk ((by rw [hg]; exact (below_size (bl HB.out)) : w.heap.size ≤ gb128)); have n4_ := Aside0.mk ((by rw [hg]; exact (below_size (bl HB.out)) : w.heap.size ≤ gb128)); have n5_ := Aside0.mk ((by rw [hg]; exact Nat.ne_of_lt (blk_lt (kp BK127.out)) : gb127 ≠ gb128)); have n6_ := Aside0.mk ((by rw [hg]; exact Nat.ne_of_gt (blk_lt (kp BK127.out)) : gb128 ≠ gb127)); clear BK127; clear HB; have BK127 := n0_; have HB := n1_; have BK128 := n2_; have GW128 := n3_; have GE128 := n4_; have NB127_128 := n5_; have NB128_127 := n6_; clear n0_ n1_ n2_ n3_ n4_ n5_ n6_; clear hb hbox hg; have hnb6 := NB127_128.out; have hnc6 := NB128_127.out; obtain ⟨hcz7_0, hcz7_1, hcz7_2, hcz7_3, hcz7_4⟩ := hc5 BK127.out; obtain ⟨hfz7_0, hfz7_1, hfz7_2, hfz7_3, hfz7_4⟩ := hf5 BK127.out))
 (try simp only [Act.put, List.setIfInBounds_toArray, List.set_cons_zero, List.set_cons_succ])
 go_cut [5, 6, 7] (fun v5 v6 v7 wc => ∃ (kq : Nat) (x5_2 : Int) (x6_2 : Int) (x7_2 : Int), v5 = .int .i64 x5_2 ∧ v6 = .int .i64 x6_2 ∧ v7 = .int .i64 x7_2 ∧ Aside0 (drachmref02_form.j0 kq a1 x5_2 x6_2 x7_2 a0_0 a0_1 a0_2 a0_3 a0_4 = some (r1, r2, r3, r4)) ∧ Aside0 (kq ≤ k) ∧ Aside0 (wc.heap[gb127]? = some (.cells #[.int .i64 a0_0, .int .i64 a0_1, .int .i64 a0_2, .int .i64 a0_3, .int .i64 a0_4] 79 (0, 0))) ∧ Aside0 (wc.heap[gb128]? = some (.cells #[.int .i64 0, .int .i64 0, .int .i64 0, .int .i64 0] 54 (0, 0))) ∧ Aside0 (Below w.heap.size w wc))
 case first =>
  have H := HC3.out
  clear HC3
  by_cases c8 : a0_4 > a0_3
  ·rw [if_pos c8] at H
   have c8b0 : decide (a0_3 < a0_4) = true := decide_eq_true c8
   clear c8
   (first | rw [c8b0] | (simp only [i64_w, i32_w]; rw [c8b0]) | skip)
   have H' := Aside0.mk H
   clear H
   have hnb9 := NB127_128.out
   have hnc9 := NB128_127.out
   obtain ⟨hcz10_0, hcz10_1, hcz10_2, hcz10_3, hcz10_4⟩ := hc5 BK127.out
   obtain ⟨hfz10_0, hfz10_1, hfz10_2, hfz10_3, hfz10_4⟩ := hf5 BK127.out
   go_wp2
   go_meet
   case rel => exact ⟨_, (5), (a0_3), (wrap64 (a0_4 - a0_3)), (by first | rfl | (simp; done) | (simp [*]; done)), (by first | rfl | (simp; done) | (simp [*]; done)), (by first | rfl | (simp; done) | (simp [*]; done)), H', ⟨by first | omega | exact Nat.le_refl _⟩, ⟨kp BK127.out⟩, ⟨kp BK128.out⟩, ⟨bl HB.out⟩⟩
  ·rw [if_neg c8] at H
   have c8b0 : decide (a0_3 < a0_4) = false := decide_eq_false c8
   clear c8
   (first | rw [c8b0] | (simp only [i64_w, i32_w]; rw [c8b0]) | skip)
   have H' := Aside0.mk H
   clear H
   go_wp2
   go_meet
   case rel => exact ⟨_, (2), (a0_4), (wrap64 (a0_3 - a0_4)), (by first | rfl | (simp; done) | (simp [*]; done)), (by first | rfl | (simp; done) | (simp [*]; done)), (by first | rfl | (simp; done) | (simp [*]; done)), H', ⟨by first | omega | exact Nat.le_refl _⟩, ⟨kp BK127.out⟩, ⟨kp BK128.out⟩, ⟨bl HB.out⟩⟩
 case rest =>
  clear HC3
  try clear p2
  try clear c5
  try clear c6
  try clear p6
  try clear c8
  try clear c8b0
  try clear c9
  try clear hcz10_0 hcz10_1 hcz10_2 hcz10_3 hcz10_4
  try clear hcz7_0 hcz7_1 hcz7_2 hcz7_3 hcz7_4
  try clear hfz10_0 hfz10_1 hfz10_2 hfz10_3 hfz10_4
  try clear hfz7_0 hfz7_1 hfz7_2 hfz7_3 hfz7_4
  obtain ⟨kq, x5_2, x6_2, x7_2, rfl, rfl, rfl, HA, HJ2, BK127, BK128, HB⟩ := hcut
  cases kq with
  | zero => exact absurd HA.out (by simp [drachmref02_form.j0])
  | succ kj2 =>
   have H := HA.out
   clear HA
   simp only [drachmref02_form.j0] at H
   have H' := Aside0.mk H
   clear H
   have hnb11 := NB127_128.out
   have hnc11 := NB128_127.out
   obtain ⟨hcz12_0, hcz12_1, hcz12_2, hcz12_3, hcz12_4⟩ := hc5 BK127.out
   obtain ⟨hfz12_0, hfz12_1, hfz12_2, hfz12_3, hfz12_4⟩ := hf5 BK127.out
   go_wp2
   go_loopg [8, 9] kj2 (fun kq v8 v9 w' => ∃ (x8_2 : Int) (x9_2 : Int) (x129000_2 : Int) (x129001_2 : Int) (x129002_2 : Int) (x129003_2 : Int), v8 = .int .i64 x8_2 ∧ v9 = .int .i64 x9_2 ∧ Aside0 (drachmref02_form.l0 kq a1 x5_2 x6_2 x7_2 x8_2 x9_2 a0_0 a0_1 a0_2 a0_3 a0_4 = some (r1, r2, r3, r4)) ∧ Aside0 (kq ≤ kj2) ∧ Aside0 (w'.heap[gb127]? = some (.cells #[.int .i64 a0_0, .int .i64 a0_1, .int .i64 a0_2, .int .i64 a0_3, .int .i64 a0_4] 79 (0, 0))) ∧ Aside0 (w'.heap[gb128]? = some (.cells #[.int .i64 x129000_2, .int .i64 x129001_2, .int .i64 x129002_2, .int .i64 x129003_2] 54 (0, 0))) ∧ Aside0 (Below w.heap.size w w'))
   case atStart => exact ⟨(a0_1), (0), (0), (0), (0), (0), (by first | rfl | (simp; done) | (simp [*]; done)), (by first | rfl | (simp; done) | (simp [*]; done)), H', ⟨Nat.le_refl _⟩, ⟨kp BK127.out⟩, ⟨kp BK128.out⟩, ⟨bl HB.out⟩⟩
   case round =>
    clear H'
    try clear c1
    try clear p2
    try clear c5
    try clear c6
    try clear p6
    try clear c8
    try clear c8b0
    try clear c9
    try clear c11
    try clear hcz10_0 hcz10_1 hcz10_2 hcz10_3 hcz10_4
    try clear hcz12_0 hcz12_1 hcz12_2 hcz12_3 hcz12_4
    try clear hcz7_0 hcz7_1 hcz7_2 hcz7_3 hcz7_4
    try clear hfz10_0 hfz10_1 hfz10_2 hfz10_3 hfz10_4
    try clear hfz12_0 hfz12_1 hfz12_2 hfz12_3 hfz12_4
    try clear hfz7_0 hfz7_1 hfz7_2 hfz7_3 hfz7_4
    try clear p2
    try clear p6
    obtain ⟨x8_2, x9_2, x129000_2, x129001_2, x129002_2, x129003_2, rfl, rfl, HA, HK2, BK127, BK128, HB⟩ := hrel
    cases gk with
    | zero => exact absurd HA.out (by simp [drachmref02_form.l0])
    | succ k2 =>
     have H := HA.out
     clear HA
     simp only [drachmref02_form.l0] at H
     by_cases c13 : x9_2 < x7_2
     ·rw [if_pos c13] at H
      have c13b0 : decide (x9_2 < x7_2) = true := decide_eq_true c13
      clear c13
      replace H := Option.bind_eq_some_iff.mp H
      obtain ⟨⟨t129, t130⟩, A140, H⟩ := H
      replace H : (if t130 = true then (drachmref02_form.l0 k2 a1 x5_2 x6_2 x7_2 t129 (wrap64 (x9_2 + 1)) a0_0 a0_1 a0_2 a0_3 a0_4) else (some (0, 0, 0, 10))) = some (r1, r2, r3, r4) := H
      have A14 := Aside0.mk A140
      clear A140
      by_cases c15 : t130 = true
      ·subst c15
       have H1 : (drachmref02_form.l0 k2 a1 x5_2 x6_2 x7_2 t129 (wrap64 (x9_2 + 1)) a0_0 a0_1 a0_2 a0_3 a0_4) = some (r1, r2, r3, r4) := by rw [if_pos rfl] at H; exact H
       clear H
       have H := H1
       clear H1
       have H' := Aside0.mk H
       clear H
       go_wp2_with (first | (go_at_call 78; (with_reducible refine (drachmref01_Mul.calls k2 x8_2 x5_2 t129 true _ A14.out).mono ?_); rintro e w16 ⟨rfl, hb⟩; replace BK127 := kb BK127 hb; replace BK128 := kb BK128 hb; replace HB := sb HB hb; (try clear hb); (try clear hb2); (try clear hk); (try clear hi)) | ((with_reducible refine gate_dst (N := 10) rfl ?_); refine box_event ?hg (N := 10) ?hd (cs := #[.int .i64 0, .bool false]) (t := 114) ?hr ?_; (case hd => rfl); (case hg => rfl); (case hr => first | (go_simp; done) | (go_simp; rfl)); intro gb131 hg w17 hbox hb; have n0_ := kb BK127 hb; have n1_ := kb BK128 hb; have n2_ := sb HB hb; have n3_ := Aside0.mk (hbox); have n4_ := Aside0.mk ((by rw [hg]; exact (below_size (bl HB.out)) : w.heap.size ≤ gb131)); have n5_ := Aside0.mk ((by rw [hg]; exact (below_size (bl HB.out)) : w.heap.size ≤ gb131)); have n6_ := Aside0.mk ((by rw [hg]; exact Nat.ne_of_lt (blk_lt (kp BK127.out)) : gb127 ≠ gb131)); have n7_ := Aside0.mk ((by rw [hg]; exact Nat.ne_of_gt (blk_lt (kp BK127.out)) : gb131 ≠ gb127)); have n8_ := Aside0.mk ((by rw [hg]; exact Nat.ne_of_lt (blk_lt (kp BK128.out)) : gb128 ≠ gb131)); have n9_ := Aside0.mk ((by rw [hg]; exact Nat.ne_of_gt (blk_lt (kp BK128.out)) : gb131 ≠ gb128)); clear BK127; clear BK128; clear HB; have BK127 := n0_; have BK128 := n1_; have HB := n2_; have BK131 := n3_; have GW131 := n4_; have GE131 := n5_; have NB127_131 := n6_; have NB131_127 := n7_; have NB128_131 := n8_; have NB131_128 := n9_; clear n0_ n1_ n2_ n3_ n4_ n5_ n6_ n7_ n8_ n9_; clear hb hbox hg; have hnb18 := NB131_127.out; have hnc18 := NB127_131.out; have hnb19 := NB131_128.out; have hnc19 := NB128_131.out; obtain ⟨hcz20_0, hcz20_1⟩ := hc2 BK131.out; obtain ⟨hfz20_0, hfz20_1⟩ := hf2 BK131.out))
       go_roundg k2
       case measure => have := HJ2.out; have := HK2.out; omega
       case rel => exact ⟨(t129), (wrap64 (x9_2 + 1)), (x129000_2), (x129001_2), (x129002_2), (x129003_2), (by first | rfl | (simp; done) | (simp [*]; done)), (by first | rfl | (simp; done) | (simp [*]; done)), H', ⟨by have := HJ2.out; have := HK2.out; omega⟩, ⟨kp BK127.out⟩, ⟨kp BK128.out⟩, ⟨bl HB.out⟩⟩
      ·replace c15 := Bool.eq_false_iff.mpr c15
       subst c15
       have H1 : (some (0, 0, 0, 10)) = some (r1, r2, r3, r4) := by rw [if_neg (show ¬ (false = true) by decide)] at H; exact H
       clear H
       have H := H1
       clear H1
       simp only [Option.some.injEq, Prod.mk.injEq] at H
       obtain ⟨rfl, rfl, rfl, rfl⟩ := H
       go_wp2_with (first | (go_at_call 78; (with_reducible refine (drachmref01_Mul.calls k2 x8_2 x5_2 t129 false _ A14.out).mono ?_); rintro e w21 ⟨rfl, hb⟩; replace BK127 := kb BK127 hb; replace BK128 := kb BK128 hb; replace HB := sb HB hb; (try clear hb); (try clear hb2); (try clear hk); (try clear hi)) | ((with_reducible refine gate_dst (N := 10) rfl ?_); refine box_event ?hg (N := 10) ?hd (cs := #[.int .i64 0, .bool false]) (t := 114) ?hr ?_; (case hd => rfl); (case hg => rfl); (case hr => first | (go_simp; done) | (go_simp; rfl)); intro gb131 hg w22 hbox hb; have n0_ := kb BK127 hb; have n1_ := kb BK128 hb; have n2_ := sb HB hb; have n3_ := Aside0.mk (hbox); have n4_ := Aside0.mk ((by rw [hg]; exact (below_size (bl HB.out)) : w.heap.size ≤ gb131)); have n5_ := Aside0.mk ((by rw [hg]; exact (below_size (bl HB.out)) : w.heap.size ≤ gb131)); have n6_ := Aside0.mk ((by rw [hg]; exact Nat.ne_of_lt (blk_lt (kp BK127.out)) : gb127 ≠ gb131)); have n7_ := Aside0.mk ((by rw [hg]; exact Nat.ne_of_gt (blk_lt (kp BK127.out)) : gb131 ≠ gb127)); have n8_ := Aside0.mk ((by rw [hg]; exact Nat.ne_of_lt (blk_lt (kp BK128.out)) : gb128 ≠ gb131)); have n9_ := Aside0.mk ((by rw [hg]; exact Nat.ne_of_gt (blk_lt (kp BK128.out)) : gb131 ≠ gb128)); clear BK127; clear BK128; clear HB; have BK127 := n0_; have BK128 := n1_; have HB := n2_; have BK131 := n3_; have GW131 := n4_; have GE131 := n5_; have NB127_131 := n6_; have NB131_127 := n7_; have NB128_131 := n8_; have NB131_128 := n9_; clear n0_ n1_ n2_ n3_ n4_ n5_ n6_ n7_ n8_ n9_; clear hb hbox hg; have hnb23 := NB131_127.out; have hnc23 := NB127_131.out; have hnb24 := NB131_128.out; have hnc24 := NB128_131.out; obtain ⟨hcz25_0, hcz25_1⟩ := hc2 BK131.out; obtain ⟨hfz25_0, hfz25_1⟩ := hf2 BK131.out; have hnb26 := NB128_127.out; have hnc26 := NB127_128.out; obtain ⟨hcz27_0, hcz27_1, hcz27_2, hcz27_3⟩ := hc4 BK128.out; obtain ⟨hfz27_0, hfz27_1, hfz27_2, hfz27_3⟩ := hf4 BK128.out))
       refine bodyPost_ret (results_cell_row rfl _ _ gb128 54 #[.int .i64 0, .int .i64 0, .int .i64 0, .int .i64 10] (0, 0) _ rfl (kp (p4_3 (kp (p4_2 (kp (p4_1 (kp (p4_0 (kp BK128.out))))))))) Tryd.underlying54 rfl (by kernel_rfl)) rfl ?_
       exact ⟨by first | rfl | (simp [errW_none, errW_some] <;> rfl) | (simp [*, errW_none, errW_some] <;> rfl), bl HB.out⟩
     ·rw [if_neg c13] at H
      have c13b0 : decide (x9_2 < x7_2) = false := decide_eq_false c13
      clear c13
      by_cases c28 : a1 < (-2000)
      ·rw [if_pos c28] at H
       have c28b0 : decide (a1 < (-2000)) = true := decide_eq_true c28
       clear c28
       simp only [Option.some.injEq, Prod.mk.injEq] at H
       obtain ⟨rfl, rfl, rfl, rfl⟩ := H
       have hnb29 := NB128_127.out
       have hnc29 := NB127_128.out
       obtain ⟨hcz30_0, hcz30_1, hcz30_2, hcz30_3⟩ := hc4 BK128.out
       obtain ⟨hfz30_0, hfz30_1, hfz30_2, hfz30_3⟩ := hf4 BK128.out
       go_wp2
       refine bodyPost_ret (results_cell_row rfl _ _ gb128 54 #[.int .i64 0, .int .i64 0, .int .i64 0, .int .i64 10] (0, 0) _ rfl (kp (p4_3 (kp (p4_2 (kp (p4_1 (kp (p4_0 (kp BK128.out))))))))) Tryd.underlying54 rfl (by kernel_rfl)) rfl ?_
       exact ⟨by first | rfl | (simp [errW_none, errW_some] <;> rfl) | (simp [*, errW_none, errW_some] <;> rfl), bl HB.out⟩
      ·rw [if_neg c28] at H
       have c28b0 : decide (a1 < (-2000)) = false := decide_eq_false c28
       clear c28
       by_cases c31 : a1 > 2000
       ·rw [if_pos c31] at H
        have c31b0 : decide (2000 < a1) = true := decide_eq_true c31
        clear c31
        simp only [Option.some.injEq, Prod.mk.injEq] at H
        obtain ⟨rfl, rfl, rfl, rfl⟩ := H
        have hnb32 := NB128_127.out
        have hnc32 := NB127_128.out
        obtain ⟨hcz33_0, hcz33_1, hcz33_2, hcz33_3⟩ := hc4 BK128.out
        obtain ⟨hfz33_0, hfz33_1, hfz33_2, hfz33_3⟩ := hf4 BK128.out
        go_wp2
        refine bodyPost_ret (results_cell_row rfl _ _ gb128 54 #[.int .i64 0, .int .i64 0, .int .i64 0, .int .i64 10] (0, 0) _ rfl (kp (p4_3 (kp (p4_2 (kp (p4_1 (kp (p4_0 (kp BK128.out))))))))) Tryd.underlying54 rfl (by kernel_rfl)) rfl ?_
        exact ⟨by first | rfl | (simp [errW_none, errW_some] <;> rfl) | (simp [*, errW_none, errW_some] <;> rfl), bl HB.out⟩
       ·rw [if_neg c31] at H
        have c31b0 : decide (2000 < a1) = false := decide_eq_false c31
        clear c31
        by_cases c34 : (wrap64 (a1 + x6_2)) < (-1000)
        ·rw [if_pos c34] at H
         have c34b0 : decide ((wrap64 (a1 + x6_2)) < (-1000)) = true := decide_eq_true c34
         clear c34
         simp only [Option.some.injEq, Prod.mk.injEq] at H
         obtain ⟨rfl, rfl, rfl, rfl⟩ := H
         have hnb35 := NB128_127.out
         have hnc35 := NB127_128.out
         obtain ⟨hcz36_0, hcz36_1, hcz36_2, hcz36_3⟩ := hc4 BK128.out
         obtain ⟨hfz36_0, hfz36_1, hfz36_2, hfz36_3⟩ := hf4 BK128.out
         go_wp2
         refine bodyPost_ret (results_cell_row rfl _ _ gb128 54 #[.int .i64 0, .int .i64 0, .int .i64 0, .int .i64 10] (0, 0) _ rfl (kp (p4_3 (kp (p4_2 (kp (p4_1 (kp (p4_0 (kp BK128.out))))))))) Tryd.underlying54 rfl (by kernel_rfl)) rfl ?_
         exact ⟨by first | rfl | (simp [errW_none, errW_some] <;> rfl) | (simp [*, errW_none, errW_some] <;> rfl), bl HB.out⟩
        ·rw [if_neg c34] at H
         have c34b0 : decide ((wrap64 (a1 + x6_2)) < (-1000)) = false := decide_eq_false c34
         clear c34
         by_cases c37 : (wrap64 (a1 + x6_2)) > 1000
         ·rw [if_pos c37] at H
          have c37b0 : decide (1000 < (wrap64 (a1 + x6_2))) = true := decide_eq_true c37
          clear c37
          simp only [Option.some.injEq, Prod.mk.injEq] at H
          obtain ⟨rfl, rfl, rfl, rfl⟩ := H
          have hnb38 := NB128_127.out
          have hnc38 := NB127_128.out
          obtain ⟨hcz39_0, hcz39_1, hcz39_2, hcz39_3⟩ := hc4 BK128.out
          obtain ⟨hfz39_0, hfz39_1, hfz39_2, hfz39_3⟩ := hf4 BK128.out
          go_wp2
          refine bodyPost_ret (results_cell_row rfl _ _ gb128 54 #[.int .i64 0, .int .i64 0, .int .i64 0, .int .i64 10] (0, 0) _ rfl (kp (p4_3 (kp (p4_2 (kp (p4_1 (kp (p4_0 (kp BK128.out))))))))) Tryd.underlying54 rfl (by kernel_rfl)) rfl ?_
          exact ⟨by first | rfl | (simp [errW_none, errW_some] <;> rfl) | (simp [*, errW_none, errW_some] <;> rfl), bl HB.out⟩
         ·rw [if_neg c37] at H
          have c37b0 : decide (1000 < (wrap64 (a1 + x6_2))) = false := decide_eq_false c37
          clear c37
          simp only [Option.some.injEq, Prod.mk.injEq] at H
          obtain ⟨rfl, rfl, rfl, rfl⟩ := H
          have hnb40 := NB127_128.out
          have hnc40 := NB128_127.out
          obtain ⟨hcz41_0, hcz41_1, hcz41_2, hcz41_3, hcz41_4⟩ := hc5 BK127.out
          obtain ⟨hfz41_0, hfz41_1, hfz41_2, hfz41_3, hfz41_4⟩ := hf5 BK127.out
          obtain ⟨hcz42_0, hcz42_1, hcz42_2, hcz42_3⟩ := hc4 BK128.out
          obtain ⟨hfz42_0, hfz42_1, hfz42_2, hfz42_3⟩ := hf4 BK128.out
          go_wp2
          refine bodyPost_ret (results_cell_row rfl _ _ gb128 54 #[.int .i64 (wrap64 (a0_0 * x8_2)), .int .i64 a0_2, .int .i64 (wrap64 (a1 + x6_2)), .int .i64 0] (0, 0) _ rfl (kp (p4_3 (kp (p4_2 (kp (p4_1 (kp (p4_0 (kp BK128.out))))))))) Tryd.underlying54 rfl (by kernel_rfl)) rfl ?_
          exact ⟨by first | rfl | (simp [errW_none, errW_some] <;> rfl) | (simp [*, errW_none, errW_some] <;> rfl), bl HB.out⟩

/-! ### drachmref01_Gcd: function 58 -/
mutual
def drachmref01_Gcd.j0 : Nat → Int → Int → Bool → Option (Int)
 | 0, _, _, _ => none
 | k + 1, x0, x1, x19 => if x19 = true then (some 0) else ((drachmref01_size.f x0).bind fun t134 => ((drachmref01_size.f x1).bind fun t135 => (drachmref01_Gcd.l0 k t134 t135)))
def drachmref01_Gcd.l0 : Nat → Int → Int → Option (Int)
 | 0, _, _ => none
 | k + 1, x7, x8 => if x8 > 0 then (if x8 = 0 then (none) else (drachmref01_Gcd.l0 k x8 (Int.tmod x7 x8))) else (some x7)
end
def drachmref01_Gcd.f (k : Nat) (a0 : Int) (a1 : Int) : Option (Int) := (drachmref01_Fits.f a0).bind fun t132 => ((drachmref01_Fits.f a1).bind fun t133 => (if t132 = true then (drachmref01_Gcd.j0 k a0 a1 (!t133)) else (drachmref01_Gcd.j0 k a0 a1 true)))
theorem drachmref01_Gcd.mono_l : ∀ k, (∀ y0 y1 y2, LeO (drachmref01_Gcd.j0 k y0 y1 y2) (drachmref01_Gcd.j0 (k + 1) y0 y1 y2)) ∧ (∀ y0 y1, LeO (drachmref01_Gcd.l0 k y0 y1) (drachmref01_Gcd.l0 (k + 1) y0 y1))
 | 0 => ⟨fun _ _ _ r h => by simp [drachmref01_Gcd.j0] at h, fun _ _ r h => by simp [drachmref01_Gcd.l0] at h⟩
 | k + 1 => by
  obtain ⟨ih0, ih1⟩ := drachmref01_Gcd.mono_l k
  refine ⟨?_, ?_⟩
  ·intro y0 y1 y2
   unfold drachmref01_Gcd.j0
   repeat' first
   | (with_reducible exact ih0 _ _ _)
   | (with_reducible exact ih1 _ _)
   | (with_reducible exact LeO.refl _)
   | (with_reducible exact LeO.none _)
   | (with_reducible refine LeO.ite ?_ ?_)
   | (with_reducible refine LeO.bind ?_ (fun _ => ?_))
   | exact ih0 _ _ _
   | exact ih1 _ _
   | exact LeO.none _
   | refine LeO.ite ?_ ?_
   | refine LeO.bind ?_ (fun _ => ?_)
  ·intro y0 y1
   unfold drachmref01_Gcd.l0
   repeat' first
   | (with_reducible exact ih0 _ _ _)
   | (with_reducible exact ih1 _ _)
   | (with_reducible exact LeO.refl _)
   | (with_reducible exact LeO.none _)
   | (with_reducible refine LeO.ite ?_ ?_)
   | (with_reducible refine LeO.bind ?_ (fun _ => ?_))
   | exact ih0 _ _ _
   | exact ih1 _ _
   | exact LeO.none _
   | refine LeO.ite ?_ ?_
   | refine LeO.bind ?_ (fun _ => ?_)
theorem drachmref01_Gcd.mono : ∀ a0 a1 k, LeO (drachmref01_Gcd.f k a0 a1) (drachmref01_Gcd.f (k + 1) a0 a1) := by
 intro a0 a1 k
 obtain ⟨ih0, ih1⟩ := drachmref01_Gcd.mono_l k
 unfold drachmref01_Gcd.f
 repeat' first
   | (with_reducible exact ih0 _ _ _)
   | (with_reducible exact ih1 _ _)
   | (with_reducible exact LeO.refl _)
   | (with_reducible exact LeO.none _)
   | (with_reducible refine LeO.ite ?_ ?_)
   | (with_reducible refine LeO.bind ?_ (fun _ => ?_))
   | exact ih0 _ _ _
   | exact ih1 _ _
   | exact LeO.none _
   | refine LeO.ite ?_ ?_
   | refine LeO.bind ?_ (fun _ => ?_)
set_option maxHeartbeats 8000000 in
set_option maxRecDepth 100000 in
theorem drachmref01_Gcd.calls (k : Nat) (a0 : Int) (a1 : Int) (r : Int) (w : World) (h : drachmref01_Gcd.f k a0 a1 = some r) :
  Calls Tryd.prog 58 #[.int .i64 a0, .int .i64 a1] w fun e w' => e = .returned (.int .i64 r) ∧ Drawn0 w w' := by
 have H : ((drachmref01_Fits.f a0).bind fun t132 => ((drachmref01_Fits.f a1).bind fun t133 => (if t132 = true then (drachmref01_Gcd.j0 k a0 a1 (!t133)) else (drachmref01_Gcd.j0 k a0 a1 true)))) = some r := h
 clear h
 replace H := Option.bind_eq_some_iff.mp H
 obtain ⟨t132, A30, H⟩ := H
 replace H : ((drachmref01_Fits.f a1).bind fun t133 => (if t132 = true then (drachmref01_Gcd.j0 k a0 a1 (!t133)) else (drachmref01_Gcd.j0 k a0 a1 true))) = some r := H
 have A3 := Aside0.mk A30
 clear A30
 replace H := Option.bind_eq_some_iff.mp H
 obtain ⟨t133, A40, H⟩ := H
 replace H : (if t132 = true then (drachmref01_Gcd.j0 k a0 a1 (!t133)) else (drachmref01_Gcd.j0 k a0 a1 true)) = some r := H
 have A4 := Aside0.mk A40
 clear A40
 have HC5 := Aside0.mk H
 clear H
 go_enter Tryd.func58, Tryd.ntmps58
 go_upto_region 3 with (first | (go_at_call 49; (with_reducible refine (drachmref01_Fits.calls a0 t132 _ A3.out).mono ?_); rintro e w' ⟨rfl, ⟨nd, rfl⟩⟩) | (go_at_call 49; (with_reducible refine (drachmref01_Fits.calls a1 t133 _ A4.out).mono ?_); rintro e w' ⟨rfl, ⟨nd, rfl⟩⟩))
 (try simp only [Act.put, List.setIfInBounds_toArray, List.set_cons_zero, List.set_cons_succ])
 go_cut [19] (fun v19 wc => ∃ (kq : Nat) (x19_4 : Bool), v19 = .bool x19_4 ∧ Aside0 (drachmref01_Gcd.j0 kq a0 a1 x19_4 = some r) ∧ Aside0 (kq ≤ k) ∧ Drawn0 w wc)
 case first =>
  have H := HC5.out
  clear HC5
  by_cases c6 : t132 = true
  ·subst c6
   have H1 : (drachmref01_Gcd.j0 k a0 a1 (!t133)) = some r := by rw [if_pos rfl] at H; exact H
   clear H
   have H := H1
   clear H1
   have H' := Aside0.mk H
   clear H
   go_wp2
   go_meet
   case rel => exact ⟨_, (!t133), (by first | rfl | (simp; done) | (simp [*]; done)), H', ⟨by first | omega | exact Nat.le_refl _⟩, by repeat (first | exact Drawn0.refl _ | apply Drawn0.step)⟩
  ·replace c6 := Bool.eq_false_iff.mpr c6
   subst c6
   have H1 : (drachmref01_Gcd.j0 k a0 a1 true) = some r := by rw [if_neg (show ¬ (false = true) by decide)] at H; exact H
   clear H
   have H := H1
   clear H1
   have H' := Aside0.mk H
   clear H
   go_wp2
   go_meet
   case rel => exact ⟨_, (true), (by first | rfl | (simp; done) | (simp [*]; done)), H', ⟨by first | omega | exact Nat.le_refl _⟩, by repeat (first | exact Drawn0.refl _ | apply Drawn0.step)⟩
 case rest =>
  clear HC5
  try clear p2
  try clear c4
  try clear c5
  try clear c6
  obtain ⟨kq, x19_4, rfl, HA, HJ4, ⟨mc4, rfl⟩⟩ := hcut
  cases kq with
  | zero => exact absurd HA.out (by simp [drachmref01_Gcd.j0])
  | succ kj4 =>
   have H := HA.out
   clear HA
   simp only [drachmref01_Gcd.j0] at H
   by_cases c7 : x19_4 = true
   ·subst c7
    have H1 : (some 0) = some r := by rw [if_pos rfl] at H; exact H
    clear H
    have H := H1
    clear H1
    obtain rfl := Option.some.inj H
    go_wp2
    go_ret
    exact ⟨by first | rfl | (simp; done) | (simp [*]; done), by repeat (first | exact Drawn0.refl _ | apply Drawn0.step)⟩
   ·replace c7 := Bool.eq_false_iff.mpr c7
    subst c7
    have H1 : ((drachmref01_size.f a0).bind fun t134 => ((drachmref01_size.f a1).bind fun t135 => (drachmref01_Gcd.l0 kj4 t134 t135))) = some r := by rw [if_neg (show ¬ (false = true) by decide)] at H; exact H
    clear H
    have H := H1
    clear H1
    replace H := Option.bind_eq_some_iff.mp H
    obtain ⟨t134, A80, H⟩ := H
    replace H : ((drachmref01_size.f a1).bind fun t135 => (drachmref01_Gcd.l0 kj4 t134 t135)) = some r := H
    have A8 := Aside0.mk A80
    clear A80
    replace H := Option.bind_eq_some_iff.mp H
    obtain ⟨t135, A90, H⟩ := H
    replace H : (drachmref01_Gcd.l0 kj4 t134 t135) = some r := H
    have A9 := Aside0.mk A90
    clear A90
    have H' := Aside0.mk H
    clear H
    go_wp2_with (first | (go_at_call 83; (with_reducible refine (drachmref01_size.calls a0 t134 _ A8.out).mono ?_); rintro e w' ⟨rfl, ⟨nd, rfl⟩⟩) | (go_at_call 83; (with_reducible refine (drachmref01_size.calls a1 t135 _ A9.out).mono ?_); rintro e w' ⟨rfl, ⟨nd, rfl⟩⟩))
    go_loopg [7, 8] kj4 (fun kq v7 v8 w' => ∃ (x7_2 : Int) (x8_2 : Int), v7 = .int .i64 x7_2 ∧ v8 = .int .i64 x8_2 ∧ Aside0 (drachmref01_Gcd.l0 kq x7_2 x8_2 = some r) ∧ Aside0 (kq ≤ kj4) ∧ Drawn0 w w')
    case atStart => exact ⟨(t134), (t135), (by first | rfl | (simp; done) | (simp [*]; done)), (by first | rfl | (simp; done) | (simp [*]; done)), H', ⟨Nat.le_refl _⟩, by repeat (first | exact Drawn0.refl _ | apply Drawn0.step)⟩
    case round =>
     clear H'
     try clear p2
     try clear c4
     try clear c5
     try clear c6
     try clear c7
     try clear c8
     try clear p2
     obtain ⟨x7_2, x8_2, rfl, rfl, HA, HK2, ⟨m2, rfl⟩⟩ := hrel
     cases gk with
     | zero => exact absurd HA.out (by simp [drachmref01_Gcd.l0])
     | succ k2 =>
      have H := HA.out
      clear HA
      simp only [drachmref01_Gcd.l0] at H
      by_cases c10 : x8_2 > 0
      ·rw [if_pos c10] at H
       have c10b0 : decide (0 < x8_2) = true := decide_eq_true c10
       clear c10
       by_cases c11 : x8_2 = 0
       ·rw [if_pos c11] at H
        exact absurd H (by simp)
       ·rw [if_neg c11] at H
        have c11b0 : (x8_2 == 0) = false := beq_eq_false_iff_ne.mpr c11
        have c11b1 : (x8_2 != 0) = true := bne_iff_ne.mpr c11
        have H' := Aside0.mk H
        clear H
        go_wp2
        go_roundg k2
        case measure => have := HJ4.out; have := HK2.out; omega
        case rel => exact ⟨(x8_2), (Int.tmod x7_2 x8_2), (by first | rfl | (simp; done) | (simp [*]; done)), (by first | rfl | (simp; done) | (simp [*]; done)), H', ⟨by have := HJ4.out; have := HK2.out; omega⟩, by repeat (first | exact Drawn0.refl _ | apply Drawn0.step)⟩
      ·rw [if_neg c10] at H
       have c10b0 : decide (0 < x8_2) = false := decide_eq_false c10
       clear c10
       obtain rfl := Option.some.inj H
       go_wp2
       go_ret
       exact ⟨by first | rfl | (simp; done) | (simp [*]; done), by repeat (first | exact Drawn0.refl _ | apply Drawn0.step)⟩

/-! ### drachmref01_Split: function 79 -/
mutual
def drachmref01_Split.j0 : Nat → Int → Bool → Int → Int → Option (Int × Int)
 | 0, _, _, _, _ => none
 | k + 1, x1, x20, x139000, x139001 => if x20 = true then (some (x139000, x139001)) else (drachmref01_Split.l0 k x1 x139000 x139001)
def drachmref01_Split.l0 : Nat → Int → Int → Int → Option (Int × Int)
 | 0, _, _, _ => none
 | k + 1, x1, x139000, x139001 => if x1 = 0 then (none) else (if (Int.tmod x139001 x1) = 0 then (drachmref01_Split.l0 k x1 (wrap64 (x139000 + 1)) (wrap64 (Int.tdiv x139001 x1))) else (some (x139000, x139001)))
end
def drachmref01_Split.f (k : Nat) (a0 : Int) (a1 : Int) : Option (Int × Int) := (drachmref01_Fits.f a0).bind fun t137 => (if t137 = true then (if a0 = 0 then (drachmref01_Split.j0 k a1 true 0 a0) else (drachmref01_Split.j0 k a1 (decide (a1 < 2)) 0 a0)) else (drachmref01_Split.j0 k a1 true 0 a0))
theorem drachmref01_Split.mono_l : ∀ k, (∀ y0 y1 y2 y3, LeO (drachmref01_Split.j0 k y0 y1 y2 y3) (drachmref01_Split.j0 (k + 1) y0 y1 y2 y3)) ∧ (∀ y0 y1 y2, LeO (drachmref01_Split.l0 k y0 y1 y2) (drachmref01_Split.l0 (k + 1) y0 y1 y2))
 | 0 => ⟨fun _ _ _ _ r h => by simp [drachmref01_Split.j0] at h, fun _ _ _ r h => by simp [drachmref01_Split.l0] at h⟩
 | k + 1 => by
  obtain ⟨ih0, ih1⟩ := drachmref01_Split.mono_l k
  refine ⟨?_, ?_⟩
  ·intro y0 y1 y2 y3
   unfold drachmref01_Split.j0
   repeat' first
   | (with_reducible exact ih0 _ _ _ _)
   | (with_reducible exact ih1 _ _ _)
   | (with_reducible exact LeO.refl _)
   | (with_reducible exact LeO.none _)
   | (with_reducible refine LeO.ite ?_ ?_)
   | (with_reducible refine LeO.bind ?_ (fun _ => ?_))
   | exact ih0 _ _ _ _
   | exact ih1 _ _ _
   | exact LeO.none _
   | refine LeO.ite ?_ ?_
   | refine LeO.bind ?_ (fun _ => ?_)
  ·intro y0 y1 y2
   unfold drachmref01_Split.l0
   repeat' first
   | (with_reducible exact ih0 _ _ _ _)
   | (with_reducible exact ih1 _ _ _)
   | (with_reducible exact LeO.refl _)
   | (with_reducible exact LeO.none _)
   | (with_reducible refine LeO.ite ?_ ?_)
   | (with_reducible refine LeO.bind ?_ (fun _ => ?_))
   | exact ih0 _ _ _ _
   | exact ih1 _ _ _
   | exact LeO.none _
   | refine LeO.ite ?_ ?_
   | refine LeO.bind ?_ (fun _ => ?_)
theorem drachmref01_Split.mono : ∀ a0 a1 k, LeO (drachmref01_Split.f k a0 a1) (drachmref01_Split.f (k + 1) a0 a1) := by
 intro a0 a1 k
 obtain ⟨ih0, ih1⟩ := drachmref01_Split.mono_l k
 unfold drachmref01_Split.f
 repeat' first
   | (with_reducible exact ih0 _ _ _ _)
   | (with_reducible exact ih1 _ _ _)
   | (with_reducible exact LeO.refl _)
   | (with_reducible exact LeO.none _)
   | (with_reducible refine LeO.ite ?_ ?_)
   | (with_reducible refine LeO.bind ?_ (fun _ => ?_))
   | exact ih0 _ _ _ _
   | exact ih1 _ _ _
   | exact LeO.none _
   | refine LeO.ite ?_ ?_
   | refine LeO.bind ?_ (fun _ => ?_)
set_option maxHeartbeats 8000000 in
set_option maxRecDepth 100000 in
theorem drachmref01_Split.calls (k : Nat) (a0 : Int) (a1 : Int) (r1 : Int) (r2 : Int) (w : World) (h : drachmref01_Split.f k a0 a1 = some (r1, r2)) :
  Calls Tryd.prog 79 #[.int .i64 a0, .int .i64 a1] w fun e w' => e = .returned (.agg #[.int .i64 r1, .int .i64 r2]) ∧ Below w.heap.size w w' := by
 have hu117 := Tryd.underlying117
 have HB := Aside0.mk (Below.refl w.heap.size w)
 have H : ((drachmref01_Fits.f a0).bind fun t137 => (if t137 = true then (if a0 = 0 then (drachmref01_Split.j0 k a1 true 0 a0) else (drachmref01_Split.j0 k a1 (decide (a1 < 2)) 0 a0)) else (drachmref01_Split.j0 k a1 true 0 a0))) = some (r1, r2) := h
 clear h
 replace H := Option.bind_eq_some_iff.mp H
 obtain ⟨t137, A30, H⟩ := H
 replace H : (if t137 = true then (if a0 = 0 then (drachmref01_Split.j0 k a1 true 0 a0) else (drachmref01_Split.j0 k a1 (decide (a1 < 2)) 0 a0)) else (drachmref01_Split.j0 k a1 true 0 a0)) = some (r1, r2) := H
 have A3 := Aside0.mk A30
 clear A30
 have HC4 := Aside0.mk H
 clear H
 go_enter Tryd.func79, Tryd.ntmps79
 go_upto_region 3 with (first | ((with_reducible refine gate_dst (N := 4) rfl ?_); refine box_event ?hg (N := 4) ?hd (cs := #[.int .i64 0, .int .i64 0]) (t := 117) ?hr ?_; (case hd => rfl); (case hg => rfl); (case hr => first | (go_simp; done) | (go_simp; rfl)); intro gb136 hg w5 hbox hb; have n0_ := sb HB hb; have n1_ := Aside0.mk (hbox); have n2_ := Aside0.mk ((by rw [hg]; exact (below_size (bl HB.out)) : w.heap.size ≤ gb136)); have n3_ := Aside0.mk ((by rw [hg]; exact (below_size (bl HB.out)) : w.heap.size ≤ gb136)); clear HB; have HB := n0_; have BK136 := n1_; have GW136 := n2_; have GE136 := n3_; clear n0_ n1_ n2_ n3_; clear hb hbox hg) | (go_at_call 49; (with_reducible refine (drachmref01_Fits.calls a0 t137 _ A3.out).mono ?_); rintro e w' ⟨rfl, ⟨nd, rfl⟩⟩; (try (rw [drewN_self w5]; generalize hq_ : World.drewN w5 _ = w5; replace BK136 := Aside0.mk (kq hq_ BK136.out); replace HB := Aside0.mk (bq hq_ HB.out); clear hq_))) | ((with_reducible refine gate_dst (N := 6) rfl ?_); refine box_event ?hg (N := 6) ?hd (cs := #[.int .i64 0, .int .i64 0]) (t := 117) ?hr ?_; (case hd => rfl); (case hg => rfl); (case hr => first | (go_simp; done) | (go_simp; rfl)); intro gb138 hg w6 hbox hb; have n0_ := kb BK136 hb; have n1_ := sb HB hb; have n2_ := Aside0.mk (hbox); have n3_ := Aside0.mk ((by rw [hg]; exact (below_size (bl HB.out)) : w.heap.size ≤ gb138)); have n4_ := Aside0.mk ((by rw [hg]; exact (below_size (bl HB.out)) : w.heap.size ≤ gb138)); have n5_ := Aside0.mk ((by rw [hg]; exact Nat.ne_of_lt (blk_lt (kp BK136.out)) : gb136 ≠ gb138)); have n6_ := Aside0.mk ((by rw [hg]; exact Nat.ne_of_gt (blk_lt (kp BK136.out)) : gb138 ≠ gb136)); clear BK136; clear HB; have BK136 := n0_; have HB := n1_; have BK138 := n2_; have GW138 := n3_; have GE138 := n4_; have NB136_138 := n5_; have NB138_136 := n6_; clear n0_ n1_ n2_ n3_ n4_ n5_ n6_; clear hb hbox hg; have hnb7 := NB138_136.out; have hnc7 := NB136_138.out; obtain ⟨hcz8_0, hcz8_1⟩ := hc2 BK138.out; obtain ⟨hfz8_0, hfz8_1⟩ := hf2 BK138.out))
 (try simp only [Act.put, List.setIfInBounds_toArray, List.set_cons_zero, List.set_cons_succ])
 go_cut [20] (fun v20 wc => ∃ (kq : Nat) (x20_3 : Bool), v20 = .bool x20_3 ∧ Aside0 (drachmref01_Split.j0 kq a1 x20_3 0 a0 = some (r1, r2)) ∧ Aside0 (kq ≤ k) ∧ Aside0 (wc.heap[gb136]? = some (.cells #[.int .i64 0, .int .i64 0] 117 (0, 0))) ∧ Aside0 (wc.heap[gb138]? = some (.cells #[.int .i64 0, .int .i64 a0] 117 (0, 0))) ∧ Aside0 (Below w.heap.size w wc))
 case first =>
  have H := HC4.out
  clear HC4
  by_cases c9 : t137 = true
  ·subst c9
   have H1 : (if a0 = 0 then (drachmref01_Split.j0 k a1 true 0 a0) else (drachmref01_Split.j0 k a1 (decide (a1 < 2)) 0 a0)) = some (r1, r2) := by rw [if_pos rfl] at H; exact H
   clear H
   have H := H1
   clear H1
   by_cases c10 : a0 = 0
   ·rw [if_pos c10] at H
    have c10b0 : (a0 == 0) = true := beq_iff_eq.mpr c10
    have c10b1 : (a0 != 0) = false := bne_eq_false_iff_eq.mpr c10
    clear c10
    (first | rw [c10b0] | (simp only [i64_w, i32_w]; rw [c10b0]) | skip)
    have H' := Aside0.mk H
    clear H
    go_wp2
    go_meet
    case rel => exact ⟨_, (true), (by first | rfl | (simp; done) | (simp [*]; done)), H', ⟨by first | omega | exact Nat.le_refl _⟩, ⟨kp BK136.out⟩, ⟨kp (p2_1 (kp (p2_0 (kp BK138.out))))⟩, ⟨bl HB.out⟩⟩
   ·rw [if_neg c10] at H
    have c10b0 : (a0 == 0) = false := beq_eq_false_iff_ne.mpr c10
    have c10b1 : (a0 != 0) = true := bne_iff_ne.mpr c10
    (first | rw [c10b0] | (simp only [i64_w, i32_w]; rw [c10b0]) | skip)
    have H' := Aside0.mk H
    clear H
    go_wp2
    go_meet
    case rel => exact ⟨_, (decide (a1 < 2)), (by first | rfl | (simp; done) | (simp [*]; done)), H', ⟨by first | omega | exact Nat.le_refl _⟩, ⟨kp BK136.out⟩, ⟨kp (p2_1 (kp (p2_0 (kp BK138.out))))⟩, ⟨bl HB.out⟩⟩
  ·replace c9 := Bool.eq_false_iff.mpr c9
   subst c9
   have H1 : (drachmref01_Split.j0 k a1 true 0 a0) = some (r1, r2) := by rw [if_neg (show ¬ (false = true) by decide)] at H; exact H
   clear H
   have H := H1
   clear H1
   have H' := Aside0.mk H
   clear H
   go_wp2
   go_meet
   case rel => exact ⟨_, (true), (by first | rfl | (simp; done) | (simp [*]; done)), H', ⟨by first | omega | exact Nat.le_refl _⟩, ⟨kp BK136.out⟩, ⟨kp (p2_1 (kp (p2_0 (kp BK138.out))))⟩, ⟨bl HB.out⟩⟩
 case rest =>
  clear HC4
  try clear c1
  try clear p2
  try clear c4
  try clear c7
  try clear c9
  try clear c10
  try clear c10b0
  try clear c10b1
  try clear hcz8_0 hcz8_1
  try clear hfz8_0 hfz8_1
  obtain ⟨kq, x20_3, rfl, HA, HJ3, BK136, BK138, HB⟩ := hcut
  cases kq with
  | zero => exact absurd HA.out (by simp [drachmref01_Split.j0])
  | succ kj3 =>
   have H := HA.out
   clear HA
   simp only [drachmref01_Split.j0] at H
   by_cases c11 : x20_3 = true
   ·subst c11
    have H1 : (some (0, a0)) = some (r1, r2) := by rw [if_pos rfl] at H; exact H
    clear H
    have H := H1
    clear H1
    simp only [Option.some.injEq, Prod.mk.injEq] at H
    obtain ⟨rfl, rfl⟩ := H
    have hnb12 := NB138_136.out
    have hnc12 := NB136_138.out
    obtain ⟨hcz13_0, hcz13_1⟩ := hc2 BK138.out
    obtain ⟨hfz13_0, hfz13_1⟩ := hf2 BK138.out
    obtain ⟨hcz14_0, hcz14_1⟩ := hc2 BK136.out
    obtain ⟨hfz14_0, hfz14_1⟩ := hf2 BK136.out
    go_wp2
    refine bodyPost_ret (results_cell_row rfl _ _ gb136 117 #[.int .i64 0, .int .i64 a0] (0, 0) _ rfl (kp (p2_1 (kp (p2_0 (kp BK136.out))))) Tryd.underlying117 rfl (by kernel_rfl)) rfl ?_
    exact ⟨by first | rfl | (simp [errW_none, errW_some] <;> rfl) | (simp [*, errW_none, errW_some] <;> rfl), bl HB.out⟩
   ·replace c11 := Bool.eq_false_iff.mpr c11
    subst c11
    have H1 : (drachmref01_Split.l0 kj3 a1 0 a0) = some (r1, r2) := by rw [if_neg (show ¬ (false = true) by decide)] at H; exact H
    clear H
    have H := H1
    clear H1
    have H' := Aside0.mk H
    clear H
    go_wp2
    go_loopg [] kj3 (fun kq w' => ∃ (x139000_2 : Int) (x139001_2 : Int), Aside0 (drachmref01_Split.l0 kq a1 x139000_2 x139001_2 = some (r1, r2)) ∧ Aside0 (kq ≤ kj3) ∧ Aside0 (w'.heap[gb136]? = some (.cells #[.int .i64 0, .int .i64 0] 117 (0, 0))) ∧ Aside0 (w'.heap[gb138]? = some (.cells #[.int .i64 x139000_2, .int .i64 x139001_2] 117 (0, 0))) ∧ Aside0 (Below w.heap.size w w'))
    case atStart => exact ⟨(0), (a0), H', ⟨Nat.le_refl _⟩, ⟨kp BK136.out⟩, ⟨kp BK138.out⟩, ⟨bl HB.out⟩⟩
    case round =>
     clear H'
     try clear c1
     try clear p2
     try clear c4
     try clear c7
     try clear c9
     try clear c10
     try clear c10b0
     try clear c10b1
     try clear c11
     try clear c12
     try clear hcz13_0 hcz13_1
     try clear hcz14_0 hcz14_1
     try clear hcz8_0 hcz8_1
     try clear hfz13_0 hfz13_1
     try clear hfz14_0 hfz14_1
     try clear hfz8_0 hfz8_1
     try clear p2
     obtain ⟨x139000_2, x139001_2, HA, HK2, BK136, BK138, HB⟩ := hrel
     cases gk with
     | zero => exact absurd HA.out (by simp [drachmref01_Split.l0])
     | succ k2 =>
      have H := HA.out
      clear HA
      simp only [drachmref01_Split.l0] at H
      by_cases c15 : a1 = 0
      ·rw [if_pos c15] at H
       exact absurd H (by simp)
      ·rw [if_neg c15] at H
       have c15b0 : (a1 == 0) = false := beq_eq_false_iff_ne.mpr c15
       have c15b1 : (a1 != 0) = true := bne_iff_ne.mpr c15
       by_cases c16 : (Int.tmod x139001_2 a1) = 0
       ·rw [if_pos c16] at H
        have c16b0 : ((Int.tmod x139001_2 a1) == 0) = true := beq_iff_eq.mpr c16
        have c16b1 : ((Int.tmod x139001_2 a1) != 0) = false := bne_eq_false_iff_eq.mpr c16
        clear c16
        have H' := Aside0.mk H
        clear H
        have hnb17 := NB138_136.out
        have hnc17 := NB136_138.out
        obtain ⟨hcz18_0, hcz18_1⟩ := hc2 BK138.out
        obtain ⟨hfz18_0, hfz18_1⟩ := hf2 BK138.out
        go_wp2
        go_roundg k2
        case measure => have := HJ3.out; have := HK2.out; omega
        case rel => exact ⟨(wrap64 (x139000_2 + 1)), (wrap64 (Int.tdiv x139001_2 a1)), H', ⟨by have := HJ3.out; have := HK2.out; omega⟩, ⟨kp BK136.out⟩, ⟨kp (p2_1 (kp (p2_0 (kp BK138.out))))⟩, ⟨bl HB.out⟩⟩
       ·rw [if_neg c16] at H
        have c16b0 : ((Int.tmod x139001_2 a1) == 0) = false := beq_eq_false_iff_ne.mpr c16
        have c16b1 : ((Int.tmod x139001_2 a1) != 0) = true := bne_iff_ne.mpr c16
        simp only [Option.some.injEq, Prod.mk.injEq] at H
        obtain ⟨rfl, rfl⟩ := H
        have hnb19 := NB138_136.out
        have hnc19 := NB136_138.out
        obtain ⟨hcz20_0, hcz20_1⟩ := hc2 BK138.out
        obtain ⟨hfz20_0, hfz20_1⟩ := hf2 BK138.out
        obtain ⟨hcz21_0, hcz21_1⟩ := hc2 BK136.out
        obtain ⟨hfz21_0, hfz21_1⟩ := hf2 BK136.out
        go_wp2
        refine bodyPost_ret (results_cell_row rfl _ _ gb136 117 #[.int .i64 x139000_2, .int .i64 x139001_2] (0, 0) _ rfl (kp (p2_1 (kp (p2_0 (kp BK136.out))))) Tryd.underlying117 rfl (by kernel_rfl)) rfl ?_
        exact ⟨by first | rfl | (simp [errW_none, errW_some] <;> rfl) | (simp [*, errW_none, errW_some] <;> rfl), bl HB.out⟩

/-! ### drachmref02_of: function 51 -/
mutual
def drachmref02_of.j0 : Nat → Int → Int → Int → Int → Int → Int → Int → Option (Int × Int × Int × Int × Int)
 | 0, _, _, _, _, _, _, _ => none
 | k + 1, x0, x1, x141000, x141001, x141002, x141003, x141004 => if x1 < 0 then (drachmref02_of.j1 k x0 (wrap64 (-x1)) (wrap64 (-x141000)) x141001 x141002 x141003 x141004) else (drachmref02_of.j1 k x0 x1 x141000 x141001 x141002 x141003 x141004)
def drachmref02_of.j1 : Nat → Int → Int → Int → Int → Int → Int → Int → Option (Int × Int × Int × Int × Int)
 | 0, _, _, _, _, _, _, _ => none
 | k + 1, x0, x1, x141000, x141001, x141002, x141003, x141004 => (drachmref01_Split.f k x0 2).bind fun bt141 => ((drachmref01_Split.f k bt141.2 5).bind fun bt144 => ((drachmref01_Split.f k x1 2).bind fun bt147 => ((drachmref01_Split.f k bt147.2 5).bind fun bt150 => ((drachmref01_Gcd.f k bt144.2 bt150.2).bind fun t153 => (if t153 = 0 then (none) else (some (x141000, wrap64 (Int.tdiv bt144.2 t153), wrap64 (Int.tdiv bt150.2 t153), wrap64 (bt141.1 - bt147.1), wrap64 (bt144.1 - bt150.1))))))))
end
def drachmref02_of.f (k : Nat) (a0 : Int) (a1 : Int) : Option (Int × Int × Int × Int × Int) := if a0 < 0 then (drachmref02_of.j0 k (wrap64 (-a0)) a1 (-1) 0 0 0 0) else (drachmref02_of.j0 k a0 a1 1 0 0 0 0)
theorem drachmref02_of.mono_l : ∀ k, (∀ y0 y1 y2 y3 y4 y5 y6, LeO (drachmref02_of.j0 k y0 y1 y2 y3 y4 y5 y6) (drachmref02_of.j0 (k + 1) y0 y1 y2 y3 y4 y5 y6)) ∧ (∀ y0 y1 y2 y3 y4 y5 y6, LeO (drachmref02_of.j1 k y0 y1 y2 y3 y4 y5 y6) (drachmref02_of.j1 (k + 1) y0 y1 y2 y3 y4 y5 y6))
 | 0 => ⟨fun _ _ _ _ _ _ _ r h => by simp [drachmref02_of.j0] at h, fun _ _ _ _ _ _ _ r h => by simp [drachmref02_of.j1] at h⟩
 | k + 1 => by
  obtain ⟨ih0, ih1⟩ := drachmref02_of.mono_l k
  refine ⟨?_, ?_⟩
  ·intro y0 y1 y2 y3 y4 y5 y6
   unfold drachmref02_of.j0
   repeat' first
   | (with_reducible exact ih0 _ _ _ _ _ _ _)
   | (with_reducible exact ih1 _ _ _ _ _ _ _)
   | (with_reducible exact drachmref01_Gcd.mono _ _ _)
   | (with_reducible exact drachmref01_Split.mono _ _ _)
   | (with_reducible exact LeO.refl _)
   | (with_reducible exact LeO.none _)
   | (with_reducible refine LeO.ite ?_ ?_)
   | (with_reducible refine LeO.bind ?_ (fun _ => ?_))
   | exact ih0 _ _ _ _ _ _ _
   | exact ih1 _ _ _ _ _ _ _
   | exact drachmref01_Gcd.mono _ _ _
   | exact drachmref01_Split.mono _ _ _
   | exact LeO.none _
   | refine LeO.ite ?_ ?_
   | refine LeO.bind ?_ (fun _ => ?_)
  ·intro y0 y1 y2 y3 y4 y5 y6
   unfold drachmref02_of.j1
   repeat' first
   | (with_reducible exact ih0 _ _ _ _ _ _ _)
   | (with_reducible exact ih1 _ _ _ _ _ _ _)
   | (with_reducible exact drachmref01_Gcd.mono _ _ _)
   | (with_reducible exact drachmref01_Split.mono _ _ _)
   | (with_reducible exact LeO.refl _)
   | (with_reducible exact LeO.none _)
   | (with_reducible refine LeO.ite ?_ ?_)
   | (with_reducible refine LeO.bind ?_ (fun _ => ?_))
   | exact ih0 _ _ _ _ _ _ _
   | exact ih1 _ _ _ _ _ _ _
   | exact drachmref01_Gcd.mono _ _ _
   | exact drachmref01_Split.mono _ _ _
   | exact LeO.none _
   | refine LeO.ite ?_ ?_
   | refine LeO.bind ?_ (fun _ => ?_)
theorem drachmref02_of.mono : ∀ a0 a1 k, LeO (drachmref02_of.f k a0 a1) (drachmref02_of.f (k + 1) a0 a1) := by
 intro a0 a1 k
 obtain ⟨ih0, ih1⟩ := drachmref02_of.mono_l k
 unfold drachmref02_of.f
 repeat' first
   | (with_reducible exact ih0 _ _ _ _ _ _ _)
   | (with_reducible exact ih1 _ _ _ _ _ _ _)
   | (with_reducible exact drachmref01_Gcd.mono _ _ _)
   | (with_reducible exact drachmref01_Split.mono _ _ _)
   | (with_reducible exact LeO.refl _)
   | (with_reducible exact LeO.none _)
   | (with_reducible refine LeO.ite ?_ ?_)
   | (with_reducible refine LeO.bind ?_ (fun _ => ?_))
   | exact ih0 _ _ _ _ _ _ _
   | exact ih1 _ _ _ _ _ _ _
   | exact drachmref01_Gcd.mono _ _ _
   | exact drachmref01_Split.mono _ _ _
   | exact LeO.none _
   | refine LeO.ite ?_ ?_
   | refine LeO.bind ?_ (fun _ => ?_)
set_option maxHeartbeats 8000000 in
set_option maxRecDepth 100000 in
theorem drachmref02_of.calls (k : Nat) (a0 : Int) (a1 : Int) (r1 : Int) (r2 : Int) (r3 : Int) (r4 : Int) (r5 : Int) (w : World) (h : drachmref02_of.f k a0 a1 = some (r1, r2, r3, r4, r5)) :
  Calls Tryd.prog 51 #[.int .i64 a0, .int .i64 a1] w fun e w' => e = .returned (.agg #[.int .i64 r1, .int .i64 r2, .int .i64 r3, .int .i64 r4, .int .i64 r5]) ∧ Below w.heap.size w w' := by
 have hu79 := Tryd.underlying79
 have hu117 := Tryd.underlying117
 have HB := Aside0.mk (Below.refl w.heap.size w)
 have H : (if a0 < 0 then (drachmref02_of.j0 k (wrap64 (-a0)) a1 (-1) 0 0 0 0) else (drachmref02_of.j0 k a0 a1 1 0 0 0 0)) = some (r1, r2, r3, r4, r5) := h
 clear h
 have HC3 := Aside0.mk H
 clear H
 go_enter Tryd.func51, Tryd.ntmps51
 go_upto_if 13 with (first | ((with_reducible refine gate_dst (N := 4) rfl ?_); refine box_event ?hg (N := 4) ?hd (cs := #[.int .i64 0, .int .i64 0, .int .i64 0, .int .i64 0, .int .i64 0]) (t := 79) ?hr ?_; (case hd => rfl); (case hg => rfl); (case hr => first | (go_simp; done) | (go_simp; rfl)); intro gb139 hg w4 hbox hb; have n0_ := sb HB hb; have n1_ := Aside0.mk (hbox); have n2_ := Aside0.mk ((by rw [hg]; exact (below_size (bl HB.out)) : w.heap.size ≤ gb139)); have n3_ := Aside0.mk ((by rw [hg]; exact (below_size (bl HB.out)) : w.heap.size ≤ gb139)); clear HB; have HB := n0_; have BK139 := n1_; have GW139 := n2_; have GE139 := n3_; clear n0_ n1_ n2_ n3_; clear hb hbox hg) | ((with_reducible refine gate_dst (N := 5) rfl ?_); refine box_event ?hg (N := 5) ?hd (cs := #[.int .i64 0, .int .i64 0, .int .i64 0, .int .i64 0, .int .i64 0]) (t := 79) ?hr ?_; (case hd => rfl); (case hg => rfl); (case hr => first | (go_simp; done) | (go_simp; rfl)); intro gb140 hg w5 hbox hb; have n0_ := kb BK139 hb; have n1_ := sb HB hb; have n2_ := Aside0.mk (hbox); have n3_ := Aside0.mk ((by rw [hg]; exact (below_size (bl HB.out)) : w.heap.size ≤ gb140)); have n4_ := Aside0.mk ((by rw [hg]; exact (below_size (bl HB.out)) : w.heap.size ≤ gb140)); have n5_ := Aside0.mk ((by rw [hg]; exact Nat.ne_of_lt (blk_lt (kp BK139.out)) : gb139 ≠ gb140)); have n6_ := Aside0.mk ((by rw [hg]; exact Nat.ne_of_gt (blk_lt (kp BK139.out)) : gb140 ≠ gb139)); clear BK139; clear HB; have BK139 := n0_; have HB := n1_; have BK140 := n2_; have GW140 := n3_; have GE140 := n4_; have NB139_140 := n5_; have NB140_139 := n6_; clear n0_ n1_ n2_ n3_ n4_ n5_ n6_; clear hb hbox hg; have hnb6 := NB140_139.out; have hnc6 := NB139_140.out; obtain ⟨hcz7_0, hcz7_1, hcz7_2, hcz7_3, hcz7_4⟩ := hc5 BK140.out; obtain ⟨hfz7_0, hfz7_1, hfz7_2, hfz7_3, hfz7_4⟩ := hf5 BK140.out))
 (try simp only [Act.put, List.setIfInBounds_toArray, List.set_cons_zero, List.set_cons_succ])
 go_cut [0] (fun v0 wc => ∃ (kq : Nat) (x0_2 : Int) (x141000_2 : Int), v0 = .int .i64 x0_2 ∧ Aside0 (drachmref02_of.j0 kq x0_2 a1 x141000_2 0 0 0 0 = some (r1, r2, r3, r4, r5)) ∧ Aside0 (kq ≤ k) ∧ Aside0 (wc.heap[gb139]? = some (.cells #[.int .i64 0, .int .i64 0, .int .i64 0, .int .i64 0, .int .i64 0] 79 (0, 0))) ∧ Aside0 (wc.heap[gb140]? = some (.cells #[.int .i64 x141000_2, .int .i64 0, .int .i64 0, .int .i64 0, .int .i64 0] 79 (0, 0))) ∧ Aside0 (Below w.heap.size w wc))
 case first =>
  have H := HC3.out
  clear HC3
  by_cases c8 : a0 < 0
  ·rw [if_pos c8] at H
   have c8b0 : decide (a0 < 0) = true := decide_eq_true c8
   clear c8
   (first | rw [c8b0] | (simp only [i64_w, i32_w]; rw [c8b0]) | skip)
   have H' := Aside0.mk H
   clear H
   have hnb9 := NB140_139.out
   have hnc9 := NB139_140.out
   obtain ⟨hcz10_0, hcz10_1, hcz10_2, hcz10_3, hcz10_4⟩ := hc5 BK140.out
   obtain ⟨hfz10_0, hfz10_1, hfz10_2, hfz10_3, hfz10_4⟩ := hf5 BK140.out
   go_wp2
   go_meet
   case rel => exact ⟨_, (wrap64 (-a0)), (-1), (by first | rfl | (simp; done) | (simp [*]; done)), H', ⟨by first | omega | exact Nat.le_refl _⟩, ⟨kp BK139.out⟩, ⟨kp (p5_0 (kp (p5_4 (kp (p5_3 (kp (p5_2 (kp (p5_1 (kp (p5_0 (kp BK140.out))))))))))))⟩, ⟨bl HB.out⟩⟩
  ·rw [if_neg c8] at H
   have c8b0 : decide (a0 < 0) = false := decide_eq_false c8
   clear c8
   (first | rw [c8b0] | (simp only [i64_w, i32_w]; rw [c8b0]) | skip)
   have H' := Aside0.mk H
   clear H
   go_wp2
   go_meet
   case rel => exact ⟨_, (a0), (1), (by first | rfl | (simp; done) | (simp [*]; done)), H', ⟨by first | omega | exact Nat.le_refl _⟩, ⟨kp BK139.out⟩, ⟨kp (p5_4 (kp (p5_3 (kp (p5_2 (kp (p5_1 (kp (p5_0 (kp BK140.out))))))))))⟩, ⟨bl HB.out⟩⟩
 case rest =>
  clear HC3
  try clear p2
  try clear c5
  try clear c6
  try clear p6
  try clear c8
  try clear c8b0
  try clear c9
  try clear hcz10_0 hcz10_1 hcz10_2 hcz10_3 hcz10_4
  try clear hcz7_0 hcz7_1 hcz7_2 hcz7_3 hcz7_4
  try clear hfz10_0 hfz10_1 hfz10_2 hfz10_3 hfz10_4
  try clear hfz7_0 hfz7_1 hfz7_2 hfz7_3 hfz7_4
  obtain ⟨kq, x0_2, x141000_2, rfl, HA, HJ2, BK139, BK140, HB⟩ := hcut
  cases kq with
  | zero => exact absurd HA.out (by simp [drachmref02_of.j0])
  | succ kj2 =>
   have H := HA.out
   clear HA
   simp only [drachmref02_of.j0] at H
   have HC11 := Aside0.mk H
   clear H
   go_upto_if 21 with (fail)
   go_cut [1] (fun v1 wc => ∃ (kq : Nat) (x1_10 : Int) (x141000_10 : Int), v1 = .int .i64 x1_10 ∧ Aside0 (drachmref02_of.j1 kq x0_2 x1_10 x141000_10 0 0 0 0 = some (r1, r2, r3, r4, r5)) ∧ Aside0 (kq ≤ kj2) ∧ Aside0 (wc.heap[gb139]? = some (.cells #[.int .i64 0, .int .i64 0, .int .i64 0, .int .i64 0, .int .i64 0] 79 (0, 0))) ∧ Aside0 (wc.heap[gb140]? = some (.cells #[.int .i64 x141000_10, .int .i64 0, .int .i64 0, .int .i64 0, .int .i64 0] 79 (0, 0))) ∧ Aside0 (Below w.heap.size w wc))
   case first =>
    have H := HC11.out
    clear HC11
    by_cases c12 : a1 < 0
    ·rw [if_pos c12] at H
     have c12b0 : decide (a1 < 0) = true := decide_eq_true c12
     clear c12
     (first | rw [c12b0] | (simp only [i64_w, i32_w]; rw [c12b0]) | skip)
     have H' := Aside0.mk H
     clear H
     have hnb13 := NB140_139.out
     have hnc13 := NB139_140.out
     obtain ⟨hcz14_0, hcz14_1, hcz14_2, hcz14_3, hcz14_4⟩ := hc5 BK140.out
     obtain ⟨hfz14_0, hfz14_1, hfz14_2, hfz14_3, hfz14_4⟩ := hf5 BK140.out
     go_wp2
     go_meet
     case rel => exact ⟨_, (wrap64 (-a1)), (wrap64 (-x141000_2)), (by first | rfl | (simp; done) | (simp [*]; done)), H', ⟨by have := HJ2.out; first | omega | exact Nat.le_refl _⟩, ⟨kp BK139.out⟩, ⟨kp (p5_0 (kp BK140.out))⟩, ⟨bl HB.out⟩⟩
    ·rw [if_neg c12] at H
     have c12b0 : decide (a1 < 0) = false := decide_eq_false c12
     clear c12
     (first | rw [c12b0] | (simp only [i64_w, i32_w]; rw [c12b0]) | skip)
     have H' := Aside0.mk H
     clear H
     go_wp2
     go_meet
     case rel => exact ⟨_, (a1), (x141000_2), (by first | rfl | (simp; done) | (simp [*]; done)), H', ⟨by have := HJ2.out; first | omega | exact Nat.le_refl _⟩, ⟨kp BK139.out⟩, ⟨kp BK140.out⟩, ⟨bl HB.out⟩⟩
   case rest =>
    clear HC11
    try clear c1
    try clear p2
    try clear c5
    try clear c6
    try clear p6
    try clear c8
    try clear c8b0
    try clear c9
    try clear c12
    try clear c12b0
    try clear c13
    try clear hcz10_0 hcz10_1 hcz10_2 hcz10_3 hcz10_4
    try clear hcz14_0 hcz14_1 hcz14_2 hcz14_3 hcz14_4
    try clear hcz7_0 hcz7_1 hcz7_2 hcz7_3 hcz7_4
    try clear hfz10_0 hfz10_1 hfz10_2 hfz10_3 hfz10_4
    try clear hfz14_0 hfz14_1 hfz14_2 hfz14_3 hfz14_4
    try clear hfz7_0 hfz7_1 hfz7_2 hfz7_3 hfz7_4
    try clear p2
    try clear p6
    obtain ⟨kq, x1_10, x141000_10, rfl, HA, HJ10, BK139, BK140, HB⟩ := hcut
    cases kq with
    | zero => exact absurd HA.out (by simp [drachmref02_of.j1])
    | succ kj10 =>
     have H := HA.out
     clear HA
     simp only [drachmref02_of.j1] at H
     replace H := Option.bind_eq_some_iff.mp H
     obtain ⟨⟨t141, t142⟩, A150, H⟩ := H
     replace H : ((drachmref01_Split.f kj10 t142 5).bind fun bt144 => ((drachmref01_Split.f kj10 x1_10 2).bind fun bt147 => ((drachmref01_Split.f kj10 bt147.2 5).bind fun bt150 => ((drachmref01_Gcd.f kj10 bt144.2 bt150.2).bind fun t153 => (if t153 = 0 then (none) else (some (x141000_10, wrap64 (Int.tdiv bt144.2 t153), wrap64 (Int.tdiv bt150.2 t153), wrap64 (t141 - bt147.1), wrap64 (bt144.1 - bt150.1)))))))) = some (r1, r2, r3, r4, r5) := H
     have A15 := Aside0.mk A150
     clear A150
     replace H := Option.bind_eq_some_iff.mp H
     obtain ⟨⟨t144, t145⟩, A160, H⟩ := H
     replace H : ((drachmref01_Split.f kj10 x1_10 2).bind fun bt147 => ((drachmref01_Split.f kj10 bt147.2 5).bind fun bt150 => ((drachmref01_Gcd.f kj10 t145 bt150.2).bind fun t153 => (if t153 = 0 then (none) else (some (x141000_10, wrap64 (Int.tdiv t145 t153), wrap64 (Int.tdiv bt150.2 t153), wrap64 (t141 - bt147.1), wrap64 (t144 - bt150.1))))))) = some (r1, r2, r3, r4, r5) := H
     have A16 := Aside0.mk A160
     clear A160
     replace H := Option.bind_eq_some_iff.mp H
     obtain ⟨⟨t147, t148⟩, A170, H⟩ := H
     replace H : ((drachmref01_Split.f kj10 t148 5).bind fun bt150 => ((drachmref01_Gcd.f kj10 t145 bt150.2).bind fun t153 => (if t153 = 0 then (none) else (some (x141000_10, wrap64 (Int.tdiv t145 t153), wrap64 (Int.tdiv bt150.2 t153), wrap64 (t141 - t147), wrap64 (t144 - bt150.1)))))) = some (r1, r2, r3, r4, r5) := H
     have A17 := Aside0.mk A170
     clear A170
     replace H := Option.bind_eq_some_iff.mp H
     obtain ⟨⟨t150, t151⟩, A180, H⟩ := H
     replace H : ((drachmref01_Gcd.f kj10 t145 t151).bind fun t153 => (if t153 = 0 then (none) else (some (x141000_10, wrap64 (Int.tdiv t145 t153), wrap64 (Int.tdiv t151 t153), wrap64 (t141 - t147), wrap64 (t144 - t150))))) = some (r1, r2, r3, r4, r5) := H
     have A18 := Aside0.mk A180
     clear A180
     replace H := Option.bind_eq_some_iff.mp H
     obtain ⟨t153, A190, H⟩ := H
     replace H : (if t153 = 0 then (none) else (some (x141000_10, wrap64 (Int.tdiv t145 t153), wrap64 (Int.tdiv t151 t153), wrap64 (t141 - t147), wrap64 (t144 - t150)))) = some (r1, r2, r3, r4, r5) := H
     have A19 := Aside0.mk A190
     clear A190
     by_cases c20 : t153 = 0
     ·rw [if_pos c20] at H
      exact absurd H (by simp)
     ·rw [if_neg c20] at H
      have c20b0 : (t153 == 0) = false := beq_eq_false_iff_ne.mpr c20
      have c20b1 : (t153 != 0) = true := bne_iff_ne.mpr c20
      simp only [Option.some.injEq, Prod.mk.injEq] at H
      obtain ⟨rfl, rfl, rfl, rfl, rfl⟩ := H
      go_wp2_with (first | (go_at_call 79; (with_reducible refine (drachmref01_Split.calls kj10 x0_2 2 t141 t142 _ A15.out).mono ?_); rintro e w21 ⟨rfl, hb⟩; replace BK139 := kb BK139 hb; replace BK140 := kb BK140 hb; replace HB := sb HB hb; (try clear hb); (try clear hb2); (try clear hk); (try clear hi)) | ((with_reducible refine gate_dst (N := 6) rfl ?_); refine box_event ?hg (N := 6) ?hd (cs := #[.int .i64 0, .int .i64 0]) (t := 117) ?hr ?_; (case hd => rfl); (case hg => rfl); (case hr => first | (go_simp; done) | (go_simp; rfl)); intro gb143 hg w22 hbox hb; have n0_ := kb BK139 hb; have n1_ := kb BK140 hb; have n2_ := sb HB hb; have n3_ := Aside0.mk (hbox); have n4_ := Aside0.mk ((by rw [hg]; exact (below_size (bl HB.out)) : w.heap.size ≤ gb143)); have n5_ := Aside0.mk ((by rw [hg]; exact (below_size (bl HB.out)) : w.heap.size ≤ gb143)); have n6_ := Aside0.mk ((by rw [hg]; exact Nat.ne_of_lt (blk_lt (kp BK139.out)) : gb139 ≠ gb143)); have n7_ := Aside0.mk ((by rw [hg]; exact Nat.ne_of_gt (blk_lt (kp BK139.out)) : gb143 ≠ gb139)); have n8_ := Aside0.mk ((by rw [hg]; exact Nat.ne_of_lt (blk_lt (kp BK140.out)) : gb140 ≠ gb143)); have n9_ := Aside0.mk ((by rw [hg]; exact Nat.ne_of_gt (blk_lt (kp BK140.out)) : gb143 ≠ gb140)); clear BK139; clear BK140; clear HB; have BK139 := n0_; have BK140 := n1_; have HB := n2_; have BK143 := n3_; have GW143 := n4_; have GE143 := n5_; have NB139_143 := n6_; have NB143_139 := n7_; have NB140_143 := n8_; have NB143_140 := n9_; clear n0_ n1_ n2_ n3_ n4_ n5_ n6_ n7_ n8_ n9_; clear hb hbox hg; have hnb23 := NB143_139.out; have hnc23 := NB139_143.out; have hnb24 := NB143_140.out; have hnc24 := NB140_143.out; obtain ⟨hcz25_0, hcz25_1⟩ := hc2 BK143.out; obtain ⟨hfz25_0, hfz25_1⟩ := hf2 BK143.out) | (go_at_call 79; (with_reducible refine (drachmref01_Split.calls kj10 t142 5 t144 t145 _ A16.out).mono ?_); rintro e w26 ⟨rfl, hb⟩; replace BK139 := kb BK139 hb; replace BK140 := kb BK140 hb; replace BK143 := Aside0.mk (blk_below (kp (p2_1 (kp (p2_0 (kp BK143.out))))) hb); replace HB := sb HB hb; (try clear hb); (try clear hb2); (try clear hk); (try clear hi)) | ((with_reducible refine gate_dst (N := 7) rfl ?_); refine box_event ?hg (N := 7) ?hd (cs := #[.int .i64 0, .int .i64 0]) (t := 117) ?hr ?_; (case hd => rfl); (case hg => rfl); (case hr => first | (go_simp; done) | (go_simp; rfl)); intro gb146 hg w27 hbox hb; have n0_ := kb BK139 hb; have n1_ := kb BK140 hb; have n2_ := kb BK143 hb; have n3_ := sb HB hb; have n4_ := Aside0.mk (hbox); have n5_ := Aside0.mk ((by rw [hg]; exact (below_size (bl HB.out)) : w.heap.size ≤ gb146)); have n6_ := Aside0.mk ((by rw [hg]; exact (below_size (bl HB.out)) : w.heap.size ≤ gb146)); have n7_ := Aside0.mk ((by rw [hg]; exact Nat.ne_of_lt (blk_lt (kp BK139.out)) : gb139 ≠ gb146)); have n8_ := Aside0.mk ((by rw [hg]; exact Nat.ne_of_gt (blk_lt (kp BK139.out)) : gb146 ≠ gb139)); have n9_ := Aside0.mk ((by rw [hg]; exact Nat.ne_of_lt (blk_lt (kp BK140.out)) : gb140 ≠ gb146)); have n10_ := Aside0.mk ((by rw [hg]; exact Nat.ne_of_gt (blk_lt (kp BK140.out)) : gb146 ≠ gb140)); have n11_ := Aside0.mk ((by rw [hg]; exact Nat.ne_of_lt (blk_lt (kp BK143.out)) : gb143 ≠ gb146)); have n12_ := Aside0.mk ((by rw [hg]; exact Nat.ne_of_gt (blk_lt (kp BK143.out)) : gb146 ≠ gb143)); clear BK139; clear BK140; clear BK143; clear HB; have BK139 := n0_; have BK140 := n1_; have BK143 := n2_; have HB := n3_; have BK146 := n4_; have GW146 := n5_; have GE146 := n6_; have NB139_146 := n7_; have NB146_139 := n8_; have NB140_146 := n9_; have NB146_140 := n10_; have NB143_146 := n11_; have NB146_143 := n12_; clear n0_ n1_ n2_ n3_ n4_ n5_ n6_ n7_ n8_ n9_ n10_ n11_ n12_; clear hb hbox hg; have hnb28 := NB146_139.out; have hnc28 := NB139_146.out; have hnb29 := NB146_140.out; have hnc29 := NB140_146.out; have hnb30 := NB146_143.out; have hnc30 := NB143_146.out; obtain ⟨hcz31_0, hcz31_1⟩ := hc2 BK146.out; obtain ⟨hfz31_0, hfz31_1⟩ := hf2 BK146.out) | (go_at_call 79; (with_reducible refine (drachmref01_Split.calls kj10 x1_10 2 t147 t148 _ A17.out).mono ?_); rintro e w32 ⟨rfl, hb⟩; replace BK139 := kb BK139 hb; replace BK140 := kb BK140 hb; replace BK143 := kb BK143 hb; replace BK146 := Aside0.mk (blk_below (kp (p2_1 (kp (p2_0 (kp BK146.out))))) hb); replace HB := sb HB hb; (try clear hb); (try clear hb2); (try clear hk); (try clear hi)) | ((with_reducible refine gate_dst (N := 8) rfl ?_); refine box_event ?hg (N := 8) ?hd (cs := #[.int .i64 0, .int .i64 0]) (t := 117) ?hr ?_; (case hd => rfl); (case hg => rfl); (case hr => first | (go_simp; done) | (go_simp; rfl)); intro gb149 hg w33 hbox hb; have n0_ := kb BK139 hb; have n1_ := kb BK140 hb; have n2_ := kb BK143 hb; have n3_ := kb BK146 hb; have n4_ := sb HB hb; have n5_ := Aside0.mk (hbox); have n6_ := Aside0.mk ((by rw [hg]; exact (below_size (bl HB.out)) : w.heap.size ≤ gb149)); have n7_ := Aside0.mk ((by rw [hg]; exact (below_size (bl HB.out)) : w.heap.size ≤ gb149)); have n8_ := Aside0.mk ((by rw [hg]; exact Nat.ne_of_lt (blk_lt (kp BK139.out)) : gb139 ≠ gb149)); have n9_ := Aside0.mk ((by rw [hg]; exact Nat.ne_of_gt (blk_lt (kp BK139.out)) : gb149 ≠ gb139)); have n10_ := Aside0.mk ((by rw [hg]; exact Nat.ne_of_lt (blk_lt (kp BK140.out)) : gb140 ≠ gb149)); have n11_ := Aside0.mk ((by rw [hg]; exact Nat.ne_of_gt (blk_lt (kp BK140.out)) : gb149 ≠ gb140)); have n12_ := Aside0.mk ((by rw [hg]; exact Nat.ne_of_lt (blk_lt (kp BK143.out)) : gb143 ≠ gb149)); have n13_ := Aside0.mk ((by rw [hg]; exact Nat.ne_of_gt (blk_lt (kp BK143.out)) : gb149 ≠ gb143)); have n14_ := Aside0.mk ((by rw [hg]; exact Nat.ne_of_lt (blk_lt (kp BK146.out)) : gb146 ≠ gb149)); have n15_ := Aside0.mk ((by rw [hg]; exact Nat.ne_of_gt (blk_lt (kp BK146.out)) : gb149 ≠ gb146)); clear BK139; clear BK140; clear BK143; clear BK146; clear HB; have BK139 := n0_; have BK140 := n1_; have BK143 := n2_; have BK146 := n3_; have HB := n4_; have BK149 := n5_; have GW149 := n6_; have GE149 := n7_; have NB139_149 := n8_; have NB149_139 := n9_; have NB140_149 := n10_; have NB149_140 := n11_; have NB143_149 := n12_; have NB149_143 := n13_; have NB146_149 := n14_; have NB149_146 := n15_; clear n0_ n1_ n2_ n3_ n4_ n5_ n6_ n7_ n8_ n9_ n10_ n11_ n12_ n13_ n14_ n15_; clear hb hbox hg; have hnb34 := NB149_139.out; have hnc34 := NB139_149.out; have hnb35 := NB149_140.out; have hnc35 := NB140_149.out; have hnb36 := NB149_143.out; have hnc36 := NB143_149.out; have hnb37 := NB149_146.out; have hnc37 := NB146_149.out; obtain ⟨hcz38_0, hcz38_1⟩ := hc2 BK149.out; obtain ⟨hfz38_0, hfz38_1⟩ := hf2 BK149.out) | (go_at_call 79; (with_reducible refine (drachmref01_Split.calls kj10 t148 5 t150 t151 _ A18.out).mono ?_); rintro e w39 ⟨rfl, hb⟩; replace BK139 := kb BK139 hb; replace BK140 := kb BK140 hb; replace BK143 := kb BK143 hb; replace BK146 := kb BK146 hb; replace BK149 := Aside0.mk (blk_below (kp (p2_1 (kp (p2_0 (kp BK149.out))))) hb); replace HB := sb HB hb; (try clear hb); (try clear hb2); (try clear hk); (try clear hi)) | ((with_reducible refine gate_dst (N := 9) rfl ?_); refine box_event ?hg (N := 9) ?hd (cs := #[.int .i64 0, .int .i64 0]) (t := 117) ?hr ?_; (case hd => rfl); (case hg => rfl); (case hr => first | (go_simp; done) | (go_simp; rfl)); intro gb152 hg w40 hbox hb; have n0_ := kb BK139 hb; have n1_ := kb BK140 hb; have n2_ := kb BK143 hb; have n3_ := kb BK146 hb; have n4_ := kb BK149 hb; have n5_ := sb HB hb; have n6_ := Aside0.mk (hbox); have n7_ := Aside0.mk ((by rw [hg]; exact (below_size (bl HB.out)) : w.heap.size ≤ gb152)); have n8_ := Aside0.mk ((by rw [hg]; exact (below_size (bl HB.out)) : w.heap.size ≤ gb152)); have n9_ := Aside0.mk ((by rw [hg]; exact Nat.ne_of_lt (blk_lt (kp BK139.out)) : gb139 ≠ gb152)); have n10_ := Aside0.mk ((by rw [hg]; exact Nat.ne_of_gt (blk_lt (kp BK139.out)) : gb152 ≠ gb139)); have n11_ := Aside0.mk ((by rw [hg]; exact Nat.ne_of_lt (blk_lt (kp BK140.out)) : gb140 ≠ gb152)); have n12_ := Aside0.mk ((by rw [hg]; exact Nat.ne_of_gt (blk_lt (kp BK140.out)) : gb152 ≠ gb140)); have n13_ := Aside0.mk ((by rw [hg]; exact Nat.ne_of_lt (blk_lt (kp BK143.out)) : gb143 ≠ gb152)); have n14_ := Aside0.mk ((by rw [hg]; exact Nat.ne_of_gt (blk_lt (kp BK143.out)) : gb152 ≠ gb143)); have n15_ := Aside0.mk ((by rw [hg]; exact Nat.ne_of_lt (blk_lt (kp BK146.out)) : gb146 ≠ gb152)); have n16_ := Aside0.mk ((by rw [hg]; exact Nat.ne_of_gt (blk_lt (kp BK146.out)) : gb152 ≠ gb146)); have n17_ := Aside0.mk ((by rw [hg]; exact Nat.ne_of_lt (blk_lt (kp BK149.out)) : gb149 ≠ gb152)); have n18_ := Aside0.mk ((by rw [hg]; exact Nat.ne_of_gt (blk_lt (kp BK149.out)) : gb152 ≠ gb149)); clear BK139; clear BK140; clear BK143; clear BK146; clear BK149; clear HB; have BK139 := n0_; have BK140 := n1_; have BK143 := n2_; have BK146 := n3_; have BK149 := n4_; have HB := n5_; have BK152 := n6_; have GW152 := n7_; have GE152 := n8_; have NB139_152 := n9_; have NB152_139 := n10_; have NB140_152 := n11_; have NB152_140 := n12_; have NB143_152 := n13_; have NB152_143 := n14_; have NB146_152 := n15_; have NB152_146 := n16_; have NB149_152 := n17_; have NB152_149 := n18_; clear n0_ n1_ n2_ n3_ n4_ n5_ n6_ n7_ n8_ n9_ n10_ n11_ n12_ n13_ n14_ n15_ n16_ n17_ n18_; clear hb hbox hg; have hnb41 := NB152_139.out; have hnc41 := NB139_152.out; have hnb42 := NB152_140.out; have hnc42 := NB140_152.out; have hnb43 := NB152_143.out; have hnc43 := NB143_152.out; have hnb44 := NB152_146.out; have hnc44 := NB146_152.out; have hnb45 := NB152_149.out; have hnc45 := NB149_152.out; obtain ⟨hcz46_0, hcz46_1⟩ := hc2 BK152.out; obtain ⟨hfz46_0, hfz46_1⟩ := hf2 BK152.out; obtain ⟨hcz47_0, hcz47_1⟩ := hc2 BK143.out; obtain ⟨hfz47_0, hfz47_1⟩ := hf2 BK143.out; obtain ⟨hcz48_0, hcz48_1⟩ := hc2 BK149.out; obtain ⟨hfz48_0, hfz48_1⟩ := hf2 BK149.out; have hnb49 := NB140_139.out; have hnc49 := NB139_140.out; obtain ⟨hcz50_0, hcz50_1, hcz50_2, hcz50_3, hcz50_4⟩ := hc5 BK140.out; obtain ⟨hfz50_0, hfz50_1, hfz50_2, hfz50_3, hfz50_4⟩ := hf5 BK140.out; obtain ⟨hcz51_0, hcz51_1⟩ := hc2 BK146.out; obtain ⟨hfz51_0, hfz51_1⟩ := hf2 BK146.out) | (go_at_call 58; (with_reducible refine (drachmref01_Gcd.calls kj10 t145 t151 t153 _ A19.out).mono ?_); rintro e w' ⟨rfl, ⟨nd, rfl⟩⟩; obtain ⟨hcz52_0, hcz52_1, hcz52_2, hcz52_3, hcz52_4⟩ := hc5 BK139.out; obtain ⟨hfz52_0, hfz52_1, hfz52_2, hfz52_3, hfz52_4⟩ := hf5 BK139.out))
      refine bodyPost_ret (results_cell_row rfl _ _ gb139 79 #[.int .i64 x141000_10, .int .i64 (wrap64 (Int.tdiv t145 t153)), .int .i64 (wrap64 (Int.tdiv t151 t153)), .int .i64 (wrap64 (t141 - t147)), .int .i64 (wrap64 (t144 - t150))] (0, 0) _ rfl (kp (p5_4 (kp (p5_3 (kp (p5_2 (kp (p5_1 (kp (p5_0 (kp BK139.out))))))))))) Tryd.underlying79 rfl (by kernel_rfl)) rfl ?_
      exact ⟨by first | rfl | (simp [errW_none, errW_some] <;> rfl) | (simp [*, errW_none, errW_some] <;> rfl), bl HB.out⟩

/-! ### drachmref02_Make: function 20 -/
def drachmref02_Make.j0 : Nat → Int → Int → Int → Bool → Option (Int × Int × Int × Int)
 | 0, _, _, _, _ => none
 | k + 1, x0, x1, x2, x18 => if x18 = true then (some (0, 0, 0, 1)) else (if x1 = 0 then (some (0, 0, 0, 11)) else (if x0 = 0 then (some (0, 1, 0, 0)) else ((drachmref02_of.f k x0 x1).bind fun bt157 => ((drachmref02_form.f k bt157.1 bt157.2.1 bt157.2.2.1 bt157.2.2.2.1 bt157.2.2.2.2 x2).bind fun bt162 => (some (bt162.1, bt162.2.1, bt162.2.2.1, bt162.2.2.2))))))
def drachmref02_Make.f (k : Nat) (a0 : Int) (a1 : Int) (a2 : Int) : Option (Int × Int × Int × Int) := (drachmref01_Fits.f a0).bind fun t155 => ((drachmref01_Fits.f a1).bind fun t156 => (if t155 = true then (drachmref02_Make.j0 k a0 a1 a2 (!t156)) else (drachmref02_Make.j0 k a0 a1 a2 true)))
theorem drachmref02_Make.mono_l : ∀ k, (∀ y0 y1 y2 y3, LeO (drachmref02_Make.j0 k y0 y1 y2 y3) (drachmref02_Make.j0 (k + 1) y0 y1 y2 y3))
 | 0 => fun _ _ _ _ r h => by simp [drachmref02_Make.j0] at h
 | k + 1 => by
  have ih0 := drachmref02_Make.mono_l k
  ·intro y0 y1 y2 y3
   unfold drachmref02_Make.j0
   repeat' first
   | (with_reducible exact ih0 _ _ _ _)
   | (with_reducible exact drachmref02_form.mono _ _ _ _ _ _ _)
   | (with_reducible exact drachmref02_of.mono _ _ _)
   | (with_reducible exact LeO.refl _)
   | (with_reducible exact LeO.none _)
   | (with_reducible refine LeO.ite ?_ ?_)
   | (with_reducible refine LeO.bind ?_ (fun _ => ?_))
   | exact ih0 _ _ _ _
   | exact drachmref02_form.mono _ _ _ _ _ _ _
   | exact drachmref02_of.mono _ _ _
   | exact LeO.none _
   | refine LeO.ite ?_ ?_
   | refine LeO.bind ?_ (fun _ => ?_)
theorem drachmref02_Make.mono : ∀ a0 a1 a2 k, LeO (drachmref02_Make.f k a0 a1 a2) (drachmref02_Make.f (k + 1) a0 a1 a2) := by
 intro a0 a1 a2 k
 have ih0 := drachmref02_Make.mono_l k
 unfold drachmref02_Make.f
 repeat' first
   | (with_reducible exact ih0 _ _ _ _)
   | (with_reducible exact drachmref02_form.mono _ _ _ _ _ _ _)
   | (with_reducible exact drachmref02_of.mono _ _ _)
   | (with_reducible exact LeO.refl _)
   | (with_reducible exact LeO.none _)
   | (with_reducible refine LeO.ite ?_ ?_)
   | (with_reducible refine LeO.bind ?_ (fun _ => ?_))
   | exact ih0 _ _ _ _
   | exact drachmref02_form.mono _ _ _ _ _ _ _
   | exact drachmref02_of.mono _ _ _
   | exact LeO.none _
   | refine LeO.ite ?_ ?_
   | refine LeO.bind ?_ (fun _ => ?_)
set_option maxHeartbeats 8000000 in
set_option maxRecDepth 100000 in
theorem drachmref02_Make.calls (k : Nat) (a0 : Int) (a1 : Int) (a2 : Int) (r1 : Int) (r2 : Int) (r3 : Int) (r4 : Int) (w : World) (h : drachmref02_Make.f k a0 a1 a2 = some (r1, r2, r3, r4)) :
  Calls Tryd.prog 20 #[.int .i64 a0, .int .i64 a1, .int .i64 a2] w fun e w' => e = .returned (.agg #[.int .i64 r1, .int .i64 r2, .int .i64 r3, .int .i64 r4]) ∧ Below w.heap.size w w' := by
 have hu54 := Tryd.underlying54
 have hu29 := Tryd.underlying29
 have HB := Aside0.mk (Below.refl w.heap.size w)
 have H : ((drachmref01_Fits.f a0).bind fun t155 => ((drachmref01_Fits.f a1).bind fun t156 => (if t155 = true then (drachmref02_Make.j0 k a0 a1 a2 (!t156)) else (drachmref02_Make.j0 k a0 a1 a2 true)))) = some (r1, r2, r3, r4) := h
 clear h
 replace H := Option.bind_eq_some_iff.mp H
 obtain ⟨t155, A40, H⟩ := H
 replace H : ((drachmref01_Fits.f a1).bind fun t156 => (if t155 = true then (drachmref02_Make.j0 k a0 a1 a2 (!t156)) else (drachmref02_Make.j0 k a0 a1 a2 true))) = some (r1, r2, r3, r4) := H
 have A4 := Aside0.mk A40
 clear A40
 replace H := Option.bind_eq_some_iff.mp H
 obtain ⟨t156, A50, H⟩ := H
 replace H : (if t155 = true then (drachmref02_Make.j0 k a0 a1 a2 (!t156)) else (drachmref02_Make.j0 k a0 a1 a2 true)) = some (r1, r2, r3, r4) := H
 have A5 := Aside0.mk A50
 clear A50
 have HC6 := Aside0.mk H
 clear H
 go_enter Tryd.func20, Tryd.ntmps20
 go_upto_region 3 with (first | ((with_reducible refine gate_dst (N := 6) rfl ?_); refine box_event ?hg (N := 6) ?hd (cs := #[.int .i64 0, .int .i64 0, .int .i64 0, .int .i64 0]) (t := 54) ?hr ?_; (case hd => rfl); (case hg => rfl); (case hr => first | (go_simp; done) | (go_simp; rfl)); intro gb154 hg w7 hbox hb; have n0_ := sb HB hb; have n1_ := Aside0.mk (hbox); have n2_ := Aside0.mk ((by rw [hg]; exact (below_size (bl HB.out)) : w.heap.size ≤ gb154)); have n3_ := Aside0.mk ((by rw [hg]; exact (below_size (bl HB.out)) : w.heap.size ≤ gb154)); clear HB; have HB := n0_; have BK154 := n1_; have GW154 := n2_; have GE154 := n3_; clear n0_ n1_ n2_ n3_; clear hb hbox hg) | (go_at_call 49; (with_reducible refine (drachmref01_Fits.calls a0 t155 _ A4.out).mono ?_); rintro e w' ⟨rfl, ⟨nd, rfl⟩⟩) | (go_at_call 49; (with_reducible refine (drachmref01_Fits.calls a1 t156 _ A5.out).mono ?_); rintro e w' ⟨rfl, ⟨nd, rfl⟩⟩))
 (try simp only [Act.put, List.setIfInBounds_toArray, List.set_cons_zero, List.set_cons_succ])
 go_cut [18] (fun v18 wc => ∃ (kq : Nat) (x18_5 : Bool), v18 = .bool x18_5 ∧ Aside0 (drachmref02_Make.j0 kq a0 a1 a2 x18_5 = some (r1, r2, r3, r4)) ∧ Aside0 (kq ≤ k) ∧ Aside0 (wc.heap[gb154]? = some (.cells #[.int .i64 0, .int .i64 0, .int .i64 0, .int .i64 0] 54 (0, 0))) ∧ Aside0 (Below w.heap.size w wc))
 case first =>
  have H := HC6.out
  clear HC6
  by_cases c8 : t155 = true
  ·subst c8
   have H1 : (drachmref02_Make.j0 k a0 a1 a2 (!t156)) = some (r1, r2, r3, r4) := by rw [if_pos rfl] at H; exact H
   clear H
   have H := H1
   clear H1
   have H' := Aside0.mk H
   clear H
   go_wp2
   go_meet
   case rel => exact ⟨_, (!t156), (by first | rfl | (simp; done) | (simp [*]; done)), H', ⟨by first | omega | exact Nat.le_refl _⟩, ⟨kp BK154.out⟩, ⟨bl HB.out⟩⟩
  ·replace c8 := Bool.eq_false_iff.mpr c8
   subst c8
   have H1 : (drachmref02_Make.j0 k a0 a1 a2 true) = some (r1, r2, r3, r4) := by rw [if_neg (show ¬ (false = true) by decide)] at H; exact H
   clear H
   have H := H1
   clear H1
   have H' := Aside0.mk H
   clear H
   go_wp2
   go_meet
   case rel => exact ⟨_, (true), (by first | rfl | (simp; done) | (simp [*]; done)), H', ⟨by first | omega | exact Nat.le_refl _⟩, ⟨kp BK154.out⟩, ⟨bl HB.out⟩⟩
 case rest =>
  clear HC6
  try clear c2
  try clear p2
  try clear c4
  try clear c8
  obtain ⟨kq, x18_5, rfl, HA, HJ5, BK154, HB⟩ := hcut
  cases kq with
  | zero => exact absurd HA.out (by simp [drachmref02_Make.j0])
  | succ kj5 =>
   have H := HA.out
   clear HA
   simp only [drachmref02_Make.j0] at H
   by_cases c9 : x18_5 = true
   ·subst c9
    have H1 : (some (0, 0, 0, 1)) = some (r1, r2, r3, r4) := by rw [if_pos rfl] at H; exact H
    clear H
    have H := H1
    clear H1
    simp only [Option.some.injEq, Prod.mk.injEq] at H
    obtain ⟨rfl, rfl, rfl, rfl⟩ := H
    obtain ⟨hcz10_0, hcz10_1, hcz10_2, hcz10_3⟩ := hc4 BK154.out
    obtain ⟨hfz10_0, hfz10_1, hfz10_2, hfz10_3⟩ := hf4 BK154.out
    go_wp2
    refine bodyPost_ret (results_cell_row rfl _ _ gb154 54 #[.int .i64 0, .int .i64 0, .int .i64 0, .int .i64 1] (0, 0) _ rfl (kp (p4_3 (kp (p4_2 (kp (p4_1 (kp (p4_0 (kp BK154.out))))))))) Tryd.underlying54 rfl (by kernel_rfl)) rfl ?_
    exact ⟨by first | rfl | (simp [errW_none, errW_some] <;> rfl) | (simp [*, errW_none, errW_some] <;> rfl), bl HB.out⟩
   ·replace c9 := Bool.eq_false_iff.mpr c9
    subst c9
    have H1 : (if a1 = 0 then (some (0, 0, 0, 11)) else (if a0 = 0 then (some (0, 1, 0, 0)) else ((drachmref02_of.f kj5 a0 a1).bind fun bt157 => ((drachmref02_form.f kj5 bt157.1 bt157.2.1 bt157.2.2.1 bt157.2.2.2.1 bt157.2.2.2.2 a2).bind fun bt162 => (some (bt162.1, bt162.2.1, bt162.2.2.1, bt162.2.2.2)))))) = some (r1, r2, r3, r4) := by rw [if_neg (show ¬ (false = true) by decide)] at H; exact H
    clear H
    have H := H1
    clear H1
    by_cases c11 : a1 = 0
    ·rw [if_pos c11] at H
     have c11b0 : (a1 == 0) = true := beq_iff_eq.mpr c11
     have c11b1 : (a1 != 0) = false := bne_eq_false_iff_eq.mpr c11
     clear c11
     simp only [Option.some.injEq, Prod.mk.injEq] at H
     obtain ⟨rfl, rfl, rfl, rfl⟩ := H
     obtain ⟨hcz12_0, hcz12_1, hcz12_2, hcz12_3⟩ := hc4 BK154.out
     obtain ⟨hfz12_0, hfz12_1, hfz12_2, hfz12_3⟩ := hf4 BK154.out
     go_wp2
     refine bodyPost_ret (results_cell_row rfl _ _ gb154 54 #[.int .i64 0, .int .i64 0, .int .i64 0, .int .i64 11] (0, 0) _ rfl (kp (p4_3 (kp (p4_2 (kp (p4_1 (kp (p4_0 (kp BK154.out))))))))) Tryd.underlying54 rfl (by kernel_rfl)) rfl ?_
     exact ⟨by first | rfl | (simp [errW_none, errW_some] <;> rfl) | (simp [*, errW_none, errW_some] <;> rfl), bl HB.out⟩
    ·rw [if_neg c11] at H
     have c11b0 : (a1 == 0) = false := beq_eq_false_iff_ne.mpr c11
     have c11b1 : (a1 != 0) = true := bne_iff_ne.mpr c11
     by_cases c13 : a0 = 0
     ·rw [if_pos c13] at H
      have c13b0 : (a0 == 0) = true := beq_iff_eq.mpr c13
      have c13b1 : (a0 != 0) = false := bne_eq_false_iff_eq.mpr c13
      clear c13
      simp only [Option.some.injEq, Prod.mk.injEq] at H
      obtain ⟨rfl, rfl, rfl, rfl⟩ := H
      obtain ⟨hcz14_0, hcz14_1, hcz14_2, hcz14_3⟩ := hc4 BK154.out
      obtain ⟨hfz14_0, hfz14_1, hfz14_2, hfz14_3⟩ := hf4 BK154.out
      go_wp2
      refine bodyPost_ret (results_cell_row rfl _ _ gb154 54 #[.int .i64 0, .int .i64 1, .int .i64 0, .int .i64 0] (0, 0) _ rfl (kp (p4_3 (kp (p4_2 (kp (p4_1 (kp (p4_0 (kp BK154.out))))))))) Tryd.underlying54 rfl (by kernel_rfl)) rfl ?_
      exact ⟨by first | rfl | (simp [errW_none, errW_some] <;> rfl) | (simp [*, errW_none, errW_some] <;> rfl), bl HB.out⟩
     ·rw [if_neg c13] at H
      have c13b0 : (a0 == 0) = false := beq_eq_false_iff_ne.mpr c13
      have c13b1 : (a0 != 0) = true := bne_iff_ne.mpr c13
      replace H := Option.bind_eq_some_iff.mp H
      obtain ⟨⟨t157, t158, t159, t160, t161⟩, A150, H⟩ := H
      replace H : ((drachmref02_form.f kj5 t157 t158 t159 t160 t161 a2).bind fun bt162 => (some (bt162.1, bt162.2.1, bt162.2.2.1, bt162.2.2.2))) = some (r1, r2, r3, r4) := H
      have A15 := Aside0.mk A150
      clear A150
      replace H := Option.bind_eq_some_iff.mp H
      obtain ⟨⟨t162, t163, t164, t165⟩, A160, H⟩ := H
      replace H : (some (t162, t163, t164, t165)) = some (r1, r2, r3, r4) := H
      have A16 := Aside0.mk A160
      clear A160
      simp only [Option.some.injEq, Prod.mk.injEq] at H
      obtain ⟨rfl, rfl, rfl, rfl⟩ := H
      go_wp2_with (first | (go_at_call 51; (with_reducible refine (drachmref02_of.calls kj5 a0 a1 t157 t158 t159 t160 t161 _ A15.out).mono ?_); rintro e w17 ⟨rfl, hb⟩; replace BK154 := kb BK154 hb; replace HB := sb HB hb; (try clear hb); (try clear hb2); (try clear hk); (try clear hi)) | (go_at_call 50; (with_reducible refine (drachmref02_form.calls kj5 t157 t158 t159 t160 t161 a2 t162 t163 t164 t165 _ A16.out).mono ?_); rintro e w18 ⟨rfl, hb⟩; replace BK154 := kb BK154 hb; replace HB := sb HB hb; (try clear hb); (try clear hb2); (try clear hk); (try clear hi); obtain ⟨hcz19_0, hcz19_1, hcz19_2, hcz19_3⟩ := hc4 BK154.out; obtain ⟨hfz19_0, hfz19_1, hfz19_2, hfz19_3⟩ := hf4 BK154.out))
      refine bodyPost_ret (results_cell_row rfl _ _ gb154 54 #[.int .i64 t162, .int .i64 t163, .int .i64 t164, .int .i64 t165] (0, 0) _ rfl (kp (p4_3 (kp (p4_2 (kp (p4_1 (kp (p4_0 (kp BK154.out))))))))) Tryd.underlying54 rfl (by kernel_rfl)) rfl ?_
      exact ⟨by first | rfl | (simp [errW_none, errW_some] <;> rfl) | (simp [*, errW_none, errW_some] <;> rfl), bl HB.out⟩

end Go.Proofs.YthfibffgmoblaaaDoor.PB

