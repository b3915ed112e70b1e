/- Printed by a program of this session (wip/tools/prt.py) out of the translation: plain functions, and that the calls come to just them. No conditions beyond those that stand in each theorem. -/
import Derived.Test.YtkogfbgeepgjgaaPBasex0
namespace Go.Proofs.Ytkogfbgeepgjgaa.PBase
open Go.RowKit Go.Proofs.YtkogfbgeepgjgaaW.PrintWords Go.Proofs.YtkogfbgeepgjgaaW.PrintLast Go.Proofs.YtkogfbgeepgjgaaW.PrintMore
attribute [local go_sem] max2_int min2_int max_two min_two max_three min_three max_four min_four   -- for this text's walks alone
set_option linter.unusedVariables false
set_option linter.unusedSimpArgs false

/-! ### drachmref16_Distance: function 18 -/
mutual
def drachmref16_Distance.l0 : Nat → ByteArray → ByteArray → List Int → Int → Int → Option (Int)
  | 0, _, _, _, _, _ => none
  | k + 1, x0, x1, x5, x6, x7 => if x7 ≤ (x0.size : Int) then (drachmref16_Distance.l1 k x0 x1 x5 x6 x7 0) else (if 0 ≤ (wrap64 ((wrap64 ((x0.size : Int) * x6)) + (x1.size : Int))) then (if (wrap64 ((wrap64 ((x0.size : Int) * x6)) + (x1.size : Int))) < (x5.length : Int) then (some (rd x5 (wrap64 ((wrap64 ((x0.size : Int) * x6)) + (x1.size : Int))))) else (none)) else (none))
def drachmref16_Distance.l1 : Nat → ByteArray → ByteArray → List Int → Int → Int → Int → Option (Int)
  | 0, _, _, _, _, _, _ => none
  | k + 1, x0, x1, x5, x6, x7, x8 => if x8 ≤ (x1.size : Int) then (if x7 = 0 then (if 0 ≤ x8 then (if x8 < (x5.length : Int) then (drachmref16_Distance.l1 k x0 x1 (x5.set (x8 : Int).toNat x8) x6 x7 (wrap64 (x8 + 1))) else (none)) else (none)) else (if x8 = 0 then (if 0 ≤ (wrap64 (x7 * x6)) then (if (wrap64 (x7 * x6)) < (x5.length : Int) then (drachmref16_Distance.l1 k x0 x1 (x5.set ((wrap64 (x7 * x6)) : Int).toNat x7) x6 x7 (wrap64 (x8 + 1))) else (none)) else (none)) else (if 0 ≤ (wrap64 ((wrap64 ((wrap64 ((wrap64 (x7 - 1)) * x6)) + x8)) - 1)) then (if (wrap64 ((wrap64 ((wrap64 ((wrap64 (x7 - 1)) * x6)) + x8)) - 1)) < (x5.length : Int) then (if 0 ≤ (wrap64 (x7 - 1)) then (if (wrap64 (x7 - 1)) < (x0.size : Int) then (if 0 ≤ (wrap64 (x8 - 1)) then (if (wrap64 (x8 - 1)) < (x1.size : Int) then (if (bt x0 (wrap64 (x7 - 1))) = (bt x1 (wrap64 (x8 - 1))) then (if 0 ≤ (wrap64 ((wrap64 ((wrap64 (x7 - 1)) * x6)) + x8)) then (if (wrap64 ((wrap64 ((wrap64 (x7 - 1)) * x6)) + x8)) < (x5.length : Int) then (if 0 ≤ (wrap64 ((wrap64 ((wrap64 (x7 * x6)) + x8)) - 1)) then (if (wrap64 ((wrap64 ((wrap64 (x7 * x6)) + x8)) - 1)) < (x5.length : Int) then (if 0 ≤ (wrap64 ((wrap64 (x7 * x6)) + x8)) then (if (wrap64 ((wrap64 (x7 * x6)) + x8)) < (x5.length : Int) then (drachmref16_Distance.l1 k x0 x1 (x5.set ((wrap64 ((wrap64 (x7 * x6)) + x8)) : Int).toNat (mn (rd x5 (wrap64 ((wrap64 ((wrap64 ((wrap64 (x7 - 1)) * x6)) + x8)) - 1))) (mn (wrap64 ((rd x5 (wrap64 ((wrap64 ((wrap64 (x7 - 1)) * x6)) + x8))) + 1)) (wrap64 ((rd x5 (wrap64 ((wrap64 ((wrap64 (x7 * x6)) + x8)) - 1))) + 1))))) x6 x7 (wrap64 (x8 + 1))) else (none)) else (none)) else (none)) else (none)) else (none)) else (none)) else (if 0 ≤ (wrap64 ((wrap64 ((wrap64 (x7 - 1)) * x6)) + x8)) then (if (wrap64 ((wrap64 ((wrap64 (x7 - 1)) * x6)) + x8)) < (x5.length : Int) then (if 0 ≤ (wrap64 ((wrap64 ((wrap64 (x7 * x6)) + x8)) - 1)) then (if (wrap64 ((wrap64 ((wrap64 (x7 * x6)) + x8)) - 1)) < (x5.length : Int) then (if 0 ≤ (wrap64 ((wrap64 (x7 * x6)) + x8)) then (if (wrap64 ((wrap64 (x7 * x6)) + x8)) < (x5.length : Int) then (drachmref16_Distance.l1 k x0 x1 (x5.set ((wrap64 ((wrap64 (x7 * x6)) + x8)) : Int).toNat (mn (wrap64 ((rd x5 (wrap64 ((wrap64 ((wrap64 ((wrap64 (x7 - 1)) * x6)) + x8)) - 1))) + 1)) (mn (wrap64 ((rd x5 (wrap64 ((wrap64 ((wrap64 (x7 - 1)) * x6)) + x8))) + 1)) (wrap64 ((rd x5 (wrap64 ((wrap64 ((wrap64 (x7 * x6)) + x8)) - 1))) + 1))))) x6 x7 (wrap64 (x8 + 1))) else (none)) else (none)) else (none)) else (none)) else (none)) else (none))) else (none)) else (none)) else (none)) else (none)) else (none)) else (none)))) else (drachmref16_Distance.l0 k x0 x1 x5 x6 (wrap64 (x7 + 1)))
end
def drachmref16_Distance.f (k : Nat) (a0 : ByteArray) (a1 : ByteArray) : Option (Int) := if 0 ≤ (wrap64 ((wrap64 ((a0.size : Int) + 1)) * (wrap64 ((a1.size : Int) + 1)))) then (if (wrap64 ((wrap64 ((a0.size : Int) + 1)) * (wrap64 ((a1.size : Int) + 1))) : Int).toNat ≤ 35184372088832 then (drachmref16_Distance.l0 k a0 a1 (List.replicate (wrap64 ((wrap64 ((a0.size : Int) + 1)) * (wrap64 ((a1.size : Int) + 1))) : Int).toNat 0) (wrap64 ((a1.size : Int) + 1)) 0) else (none)) else (none)
theorem drachmref16_Distance.mono_l : ∀ k, (∀ y0 y1 y2 y3 y4, LeO (drachmref16_Distance.l0 k y0 y1 y2 y3 y4) (drachmref16_Distance.l0 (k + 1) y0 y1 y2 y3 y4)) ∧ (∀ y0 y1 y2 y3 y4 y5, LeO (drachmref16_Distance.l1 k y0 y1 y2 y3 y4 y5) (drachmref16_Distance.l1 (k + 1) y0 y1 y2 y3 y4 y5))
  | 0 => ⟨fun _ _ _ _ _ r h => by simp [drachmref16_Distance.l0] at h, fun _ _ _ _ _ _ r h => by simp [drachmref16_Distance.l1] at h⟩
  | k + 1 => by
    obtain ⟨ih0, ih1⟩ := drachmref16_Distance.mono_l k
    refine ⟨?_, ?_⟩
    · intro y0 y1 y2 y3 y4
      unfold drachmref16_Distance.l0
      repeat' first
      | (with_reducible exact ih0 _ _ _ _ _)
      | (with_reducible exact ih1 _ _ _ _ _ _)
      | (with_reducible exact LeO.refl _)
      | (with_reducible exact LeO.none _)
      | (with_reducible refine LeO.ite ?_ ?_)
      | (with_reducible refine LeO.bind ?_ (fun _ => ?_))
      | exact ih0 _ _ _ _ _
      | exact ih1 _ _ _ _ _ _
      | exact LeO.none _
      | refine LeO.ite ?_ ?_
      | refine LeO.bind ?_ (fun _ => ?_)
    · intro y0 y1 y2 y3 y4 y5
      unfold drachmref16_Distance.l1
      repeat' first
      | (with_reducible exact ih0 _ _ _ _ _)
      | (with_reducible exact ih1 _ _ _ _ _ _)
      | (with_reducible exact LeO.refl _)
      | (with_reducible exact LeO.none _)
      | (with_reducible refine LeO.ite ?_ ?_)
      | (with_reducible refine LeO.bind ?_ (fun _ => ?_))
      | exact ih0 _ _ _ _ _
      | exact ih1 _ _ _ _ _ _
      | exact LeO.none _
      | refine LeO.ite ?_ ?_
      | refine LeO.bind ?_ (fun _ => ?_)
theorem drachmref16_Distance.mono : ∀ a0 a1 k, LeO (drachmref16_Distance.f k a0 a1) (drachmref16_Distance.f (k + 1) a0 a1) := by
  intro a0 a1 k
  obtain ⟨ih0, ih1⟩ := drachmref16_Distance.mono_l k
  unfold drachmref16_Distance.f
  repeat' first
      | (with_reducible exact ih0 _ _ _ _ _)
      | (with_reducible exact ih1 _ _ _ _ _ _)
      | (with_reducible exact LeO.refl _)
      | (with_reducible exact LeO.none _)
      | (with_reducible refine LeO.ite ?_ ?_)
      | (with_reducible refine LeO.bind ?_ (fun _ => ?_))
      | exact ih0 _ _ _ _ _
      | exact ih1 _ _ _ _ _ _
      | exact LeO.none _
      | refine LeO.ite ?_ ?_
      | refine LeO.bind ?_ (fun _ => ?_)
def drachmref16_Distance.T14 : Bool × List (List Nat × List Nat) := (true, [([], []), ([], []), ([1], [1]), ([0, 2], [0, 2]), ([], []), ([], []), ([5], [5]), ([4, 6], [4, 6]), ([3, 7], [3, 7])])
def drachmref16_Distance.B14 : List Nat := [0, 0, 2, 7, 0, 0, 32, 112, 255]
theorem drachmref16_Distance.tab14 : rtab .any (opsOf Try.f18 14) = drachmref16_Distance.T14 := by kernel_rfl
theorem drachmref16_Distance.bits14 : waitsOk drachmref16_Distance.T14.2 drachmref16_Distance.B14 = true := by kernel_rfl
def drachmref16_Distance.T16 : Bool × List (List Nat × List Nat) := (true, [([], []), ([], []), ([], []), ([1, 2], [1, 2]), ([], []), ([3, 4], [3, 4]), ([], []), ([], []), ([], []), ([8], [8]), ([], []), ([9, 10], [9, 10]), ([], []), ([11, 12], [11, 12]), ([7, 13], [7, 13]), ([14], [14]), ([15], [15]), ([], []), ([], []), ([], []), ([18, 19], [18, 19]), ([], []), ([20, 21], [20, 21]), ([22], [22]), ([17, 23], [17, 23]), ([24], [24]), ([25], [25]), ([16, 26], [16, 26]), ([6, 27], [6, 27]), ([0, 5, 0, 1, 2, 3, 4, 5, 6, 7, 8, 9, 10, 11, 12, 13, 14, 15, 16, 17, 18, 19, 20, 21, 22, 23, 24, 25, 26, 27, 28], [0, 5]), ([29, 28, 0, 1, 2, 3, 4, 5, 6, 7, 8, 9, 10, 11, 12, 13, 14, 15, 16, 17, 18, 19, 20, 21, 22, 23, 24, 25, 26, 27, 28], [28, 29])])
def drachmref16_Distance.B16 : List Nat := [0, 0, 0, 6, 0, 30, 0, 0, 0, 256, 0, 1792, 0, 7936, 16256, 32640, 65408, 0, 0, 0, 786432, 0, 3932160, 8126464, 16646144, 33423360, 66977792, 134217600, 268435392, 536870911, 1073741823]
theorem drachmref16_Distance.tab16 : rtab .any (opsOf Try.f18 16) = drachmref16_Distance.T16 := by kernel_rfl
theorem drachmref16_Distance.bits16 : waitsOk drachmref16_Distance.T16.2 drachmref16_Distance.B16 = true := by kernel_rfl
set_option maxHeartbeats 8000000 in
set_option maxRecDepth 100000 in
theorem drachmref16_Distance.calls (k : Nat) (a0 : ByteArray) (a1 : ByteArray) (r : Int) (w : World) (h : drachmref16_Distance.f k a0 a1 = some r) :
    Calls Try.prog 18 #[.string a0, .string a1] w fun e w' => e = .returned (.int .i64 r) ∧ Below w.heap.size w w' := by
  have HB := Aside0.mk (Below.refl w.heap.size w)
  have H : (if 0 ≤ (wrap64 ((wrap64 ((a0.size : Int) + 1)) * (wrap64 ((a1.size : Int) + 1)))) then (if (wrap64 ((wrap64 ((a0.size : Int) + 1)) * (wrap64 ((a1.size : Int) + 1))) : Int).toNat ≤ 35184372088832 then (drachmref16_Distance.l0 k a0 a1 (List.replicate (wrap64 ((wrap64 ((a0.size : Int) + 1)) * (wrap64 ((a1.size : Int) + 1))) : Int).toNat 0) (wrap64 ((a1.size : Int) + 1)) 0) else (none)) else (none)) = some r := h
  clear h
  obtain ⟨ji3, hji3⟩ : ∃ j_ : Int, (wrap64 ((wrap64 ((a0.size : Int) + 1)) * (wrap64 ((a1.size : Int) + 1)))) = j_ := ⟨_, rfl⟩
  replace H : (if 0 ≤ (ji3) then (if (ji3 : Int).toNat ≤ 35184372088832 then (drachmref16_Distance.l0 k a0 a1 (List.replicate (ji3 : Int).toNat 0) (wrap64 ((a1.size : Int) + 1)) 0) else (none)) else (none)) = some r := by first | (rw [hji3] at H; exact H) | (simp only [hji3] at H ⊢; exact H)
  have hji3w : (IntKind.i64.wrap ((wrap64 ((a0.size : Int) + 1)) * (wrap64 ((a1.size : Int) + 1)))) = ji3 := (i64_w _).trans hji3
  by_cases c4 : 0 ≤ (ji3)
  · rw [if_pos c4] at H
    have c4b0 := eq_true c4
    have c4b1 : decide (0 ≤ (ji3)) = true := decide_eq_true c4
    clear c4
    by_cases c5 : (ji3 : Int).toNat ≤ 35184372088832
    · rw [if_pos c5] at H
      have c5b0 := eq_true c5
      have c5b1 : decide ((ji3 : Int).toNat ≤ 35184372088832) = true := decide_eq_true c5
      clear c5
      obtain ⟨y126, hy126⟩ : ∃ y_ : List Int, y_ = (List.replicate (ji3 : Int).toNat 0) := ⟨_, rfl⟩
      replace H : (drachmref16_Distance.l0 k a0 a1 y126 (wrap64 ((a1.size : Int) + 1)) 0) = some r := by first | (rw [hy126]; with_reducible exact H) | (have H2_ := (Option.bind_some _ _).symm.trans H; rw [hy126]; with_reducible exact H2_) | (have H2_ := (Option.bind_some _ _).symm.trans H; with_reducible exact H2_) | with_reducible exact H | (rw [hy126]; exact H) | exact H
      have Ny126 := Aside0.mk hy126
      clear hy126
      have H' := Aside0.mk H
      clear H
      go_enter Try.func18, Try.ntmps18
      go_wp2_with (first | ((with_reducible refine gate_dst (N := 17) rfl ?_); refine Kd.R_make (Kd.int .i64) _ 3 rfl (N := 17) rfl 22 _ _ rfl ji3 rfl rfl Try.underlying22 (.int .i64 0) 8 info3 rfl (by decide) (by omega) 0 (ok := fun _ => True) (okp := fun _ => True) rfl (fun _ hk => hk) trivial (of_decide_eq_true (by first | (with_reducible assumption) | assumption)) (Nat.le_trans (Nat.mul_le_mul_right _ (of_decide_eq_true (by first | (with_reducible assumption) | assumption) : ji3.toNat ≤ 35184372088832)) (by omega)) (Below.refl _ _) (Nat.le_refl _) ?_; intro v127 w6 ho7 hb hg_ hnew_; clear hg_ hnew_; (first | rw [← Ny126.out] at ho7 | (simp only [Int.reduceToNat] at ho7; rw [← Ny126.out] at ho7)); have n0_ := Aside0.mk (Kd.R_lower ho7 (below_size (by repeat (first | (with_reducible first | exact HB.out | apply below_alloc | apply pw_below_drewN | apply below_drew1) | exact HB.out)))); have n1_ := Aside0.mk (below_step (by repeat (first | (with_reducible first | exact HB.out | apply below_alloc | apply pw_below_drewN | apply below_drew1) | exact HB.out)) hb); clear HB; have HO128 := n0_; have HB := n1_; clear n0_ n1_; clear hb ho7))
      go_loopg [7] k (fun kq v7 w' => ∃ (x5_1 : List Int) (x7_1 : Int), v7 = .int .i64 x7_1 ∧ Aside0 (drachmref16_Distance.l0 kq a0 a1 x5_1 (wrap64 ((a1.size : Int) + 1)) x7_1 = some r) ∧ Aside0 (kq ≤ k) ∧ Aside0 (Kd.R (Kd.int .i64) 3 w' w.heap.size (fun _ => True) v127 x5_1) ∧ Aside0 (Below w.heap.size w w'))
      case atStart => exact ⟨(y126), (0), (by first | rfl | (simp; done) | (simp [*]; done)), H', ⟨Nat.le_refl _⟩, ⟨by (with_reducible repeat (first | apply Kd.R_alloc | apply Kd.R_drewN | apply Kd.R_drew)); exact HO128.out⟩, ⟨by repeat (first | (with_reducible first | exact HB.out | apply below_alloc | apply pw_below_drewN | apply below_drew1) | exact HB.out)⟩⟩
      case round =>
        clear H'
        try clear c1
        try clear p2
        try clear c4
        try clear c4b0
        try clear c4b1
        try clear c5
        try clear c5b0
        try clear c5b1
        try clear p6
        obtain ⟨x5_1, x7_1, rfl, HA, HK1, HO_5, HB⟩ := hrel
        cases gk with
        | zero => exact absurd HA.out (by simp [drachmref16_Distance.l0])
        | succ k1 =>
          have H := HA.out
          clear HA
          simp only [drachmref16_Distance.l0] at H
          by_cases c8 : x7_1 ≤ (a0.size : Int)
          · rw [if_pos c8] at H
            have c8b0 : decide (x7_1 ≤ (a0.size : Int)) = true := decide_eq_true c8
            clear c8
            have H' := Aside0.mk H
            clear H
            go_wp2
            go_loopg [8] k1 (fun kq v8 w' => ∃ (x5_2 : List Int) (x8_2 : Int), v8 = .int .i64 x8_2 ∧ Aside0 (drachmref16_Distance.l1 kq a0 a1 x5_2 (wrap64 ((a1.size : Int) + 1)) x7_1 x8_2 = some r) ∧ Aside0 (kq ≤ k1) ∧ Aside0 (Kd.R (Kd.int .i64) 3 w' w.heap.size (fun _ => True) v127 x5_2) ∧ Aside0 (Below w.heap.size w w'))
            case atStart => exact ⟨(x5_1), (0), (by first | rfl | (simp; done) | (simp [*]; done)), H', ⟨Nat.le_refl _⟩, ⟨by (with_reducible repeat (first | apply Kd.R_alloc | apply Kd.R_drewN | apply Kd.R_drew)); exact HO_5.out⟩, ⟨by repeat (first | (with_reducible first | exact HB.out | apply below_alloc | apply pw_below_drewN | apply below_drew1) | exact HB.out)⟩⟩
            case round =>
              clear H'
              try clear c1
              try clear p2
              try clear c4
              try clear c4b0
              try clear c4b1
              try clear c5
              try clear c5b0
              try clear c5b1
              try clear p6
              try clear c8
              try clear c8b0
              try clear p2
              try clear p6
              obtain ⟨x5_2, x8_2, rfl, HA, HK2, HO_5, HB⟩ := hrel
              cases gk with
              | zero => exact absurd HA.out (by simp [drachmref16_Distance.l1])
              | succ k2 =>
                have H := HA.out
                clear HA
                simp only [drachmref16_Distance.l1] at H
                by_cases c9 : x8_2 ≤ (a1.size : Int)
                · rw [if_pos c9] at H
                  have c9b0 : decide (x8_2 ≤ (a1.size : Int)) = true := decide_eq_true c9
                  clear c9
                  by_cases c10 : x7_1 = 0
                  · rw [if_pos c10] at H
                    have c10b0 : (x7_1 == 0) = true := beq_iff_eq.mpr c10
                    have c10b1 : (x7_1 != 0) = false := bne_eq_false_iff_eq.mpr c10
                    clear c10
                    by_cases c11 : 0 ≤ x8_2
                    · rw [if_pos c11] at H
                      have c11b0 : decide (0 ≤ x8_2) = true := decide_eq_true c11
                      clear c11
                      by_cases c12 : x8_2 < (x5_2.length : Int)
                      · rw [if_pos c12] at H
                        have c12b0 : decide (x8_2 < (x5_2.length : Int)) = true := decide_eq_true c12
                        clear c12
                        obtain ⟨y130, hy130⟩ : ∃ y_ : List Int, y_ = (x5_2.set (x8_2 : Int).toNat x8_2) := ⟨_, rfl⟩
                        replace H : (drachmref16_Distance.l1 k2 a0 a1 y130 (wrap64 ((a1.size : Int) + 1)) x7_1 (wrap64 (x8_2 + 1))) = some r := by first | (rw [hy130]; with_reducible exact H) | (have H2_ := (Option.bind_some _ _).symm.trans H; rw [hy130]; with_reducible exact H2_) | (have H2_ := (Option.bind_some _ _).symm.trans H; with_reducible exact H2_) | with_reducible exact H | (rw [hy130]; exact H) | exact H
                        have Ny130 := Aside0.mk hy130
                        clear hy130
                        have H' := Aside0.mk H
                        clear H
                        have p13 : 0 ≤ (x8_2 : Int) := of_decide_eq_true (by first | (with_reducible assumption) | assumption)
                        have q13 : (x8_2 : Int) < ((x5_2.length : Int) : Int) := of_decide_eq_true (by first | (with_reducible assumption) | assumption)
                        obtain ⟨go13, co13, eo13, gb13, gl13, cl13, HG13⟩ := Kd.R_form HO_5.out (by omega)
                        (first | cases eo13 | (injection eo13 with ea_ en_ ec_; (first | subst ea_ | (injection ea_ with ea_; subst ea_)); subst ec_; clear en_))
                        have GB13 := Aside0.mk gb13
                        have GG13 := Aside0.mk HG13
                        clear gb13 gl13 HG13
                        obtain ⟨hx13_0, hf13_0⟩ := Kd.R_celln 0 HO_5.out (x8_2 : Int) p13 q13
                        replace p13 := eq_true p13
                        replace q13 := eq_true q13
                        have HP14 := Kd.R_putg HO_5.out (x8_2 : Int) x8_2
                        go_wp2_with (first | ((with_reducible refine gate_store (t := 3) (p := 38) rfl ?_); refine store_event (t := 3) (p := 38) (v := ?vo_w15) (w1 := (wr.setCell ⟨go13, (x8_2 : Int).toNat, none⟩ (.int .i64 x8_2))) ?hg ?ho ?hn ?hr ?_; (case ho => rfl); (case hg => rfl); (case hn => rfl); (case hr => first | (go_simp; done) | (go_simp; rfl)); intro w15 hw; have hg : wr.grownBy w15 (some go13) := (by rw [hw]; exact HP14.2); have hp_ : Kd.R (Kd.int .i64) 3 w15 w.heap.size (fun _ => True) (.slice (some ⟨go13, 0, none⟩) x5_2.length co13) y130 := (by rw [hw, Ny130.out]; exact HP14.1); clear HP14; have n0_ := Aside0.mk (hp_); have n1_ := Aside0.mk ((by rw [hw]; exact below_set (HB.out) GB13.out : Below w.heap.size w w15)); clear HO_5; clear HB; have HO_5 := n0_; have HB := n1_; clear n0_ n1_; clear hg hw hp_))
                        go_roundg k2
                        case measure => have := HK1.out; have := HK2.out; omega
                        case rel => exact ⟨(y130), (wrap64 (x8_2 + 1)), (by first | rfl | (simp; done) | (simp [*]; done)), H', ⟨by have := HK1.out; have := HK2.out; omega⟩, ⟨by (with_reducible repeat (first | apply Kd.R_alloc | apply Kd.R_drewN | apply Kd.R_drew)); exact HO_5.out⟩, ⟨by repeat (first | (with_reducible first | exact HB.out | apply below_alloc | apply pw_below_drewN | apply below_drew1) | exact HB.out)⟩⟩
                      · rw [if_neg c12] at H
                        exact absurd H (by simp)
                    · rw [if_neg c11] at H
                      exact absurd H (by simp)
                  · rw [if_neg c10] at H
                    have c10b0 : (x7_1 == 0) = false := beq_eq_false_iff_ne.mpr c10
                    have c10b1 : (x7_1 != 0) = true := bne_iff_ne.mpr c10
                    by_cases c16 : x8_2 = 0
                    · rw [if_pos c16] at H
                      have c16b0 : (x8_2 == 0) = true := beq_iff_eq.mpr c16
                      have c16b1 : (x8_2 != 0) = false := bne_eq_false_iff_eq.mpr c16
                      clear c16
                      obtain ⟨ji17, hji17⟩ : ∃ j_ : Int, (wrap64 (x7_1 * (wrap64 ((a1.size : Int) + 1)))) = j_ := ⟨_, rfl⟩
                      replace H : (if 0 ≤ (ji17) then (if (ji17) < (x5_2.length : Int) then (drachmref16_Distance.l1 k2 a0 a1 (x5_2.set ((ji17) : Int).toNat x7_1) (wrap64 ((a1.size : Int) + 1)) x7_1 (wrap64 (x8_2 + 1))) else (none)) else (none)) = some r := by first | (rw [hji17] at H; exact H) | (simp only [hji17] at H ⊢; exact H)
                      have hji17w : (IntKind.i64.wrap (x7_1 * (wrap64 ((a1.size : Int) + 1)))) = ji17 := (i64_w _).trans hji17
                      by_cases c18 : 0 ≤ (ji17)
                      · rw [if_pos c18] at H
                        have c18b0 : decide (0 ≤ (ji17)) = true := decide_eq_true c18
                        clear c18
                        by_cases c19 : (ji17) < (x5_2.length : Int)
                        · rw [if_pos c19] at H
                          have c19b0 : decide ((ji17) < (x5_2.length : Int)) = true := decide_eq_true c19
                          clear c19
                          obtain ⟨y131, hy131⟩ : ∃ y_ : List Int, y_ = (x5_2.set ((ji17) : Int).toNat x7_1) := ⟨_, rfl⟩
                          replace H : (drachmref16_Distance.l1 k2 a0 a1 y131 (wrap64 ((a1.size : Int) + 1)) x7_1 (wrap64 (x8_2 + 1))) = some r := by first | (rw [hy131]; with_reducible exact H) | (have H2_ := (Option.bind_some _ _).symm.trans H; rw [hy131]; with_reducible exact H2_) | (have H2_ := (Option.bind_some _ _).symm.trans H; with_reducible exact H2_) | with_reducible exact H | (rw [hy131]; exact H) | exact H
                          have Ny131 := Aside0.mk hy131
                          clear hy131
                          have H' := Aside0.mk H
                          clear H
                          have p20 : 0 ≤ ((ji17) : Int) := of_decide_eq_true (by first | (with_reducible assumption) | assumption)
                          have q20 : ((ji17) : Int) < ((x5_2.length : Int) : Int) := of_decide_eq_true (by first | (with_reducible assumption) | assumption)
                          obtain ⟨go20, co20, eo20, gb20, gl20, cl20, HG20⟩ := Kd.R_form HO_5.out (by omega)
                          (first | cases eo20 | (injection eo20 with ea_ en_ ec_; (first | subst ea_ | (injection ea_ with ea_; subst ea_)); subst ec_; clear en_))
                          have GB20 := Aside0.mk gb20
                          have GG20 := Aside0.mk HG20
                          clear gb20 gl20 HG20
                          obtain ⟨hx20_0, hf20_0⟩ := Kd.R_celln 0 HO_5.out ((ji17) : Int) p20 q20
                          replace p20 := eq_true p20
                          replace q20 := eq_true q20
                          have HP21 := Kd.R_putg HO_5.out ((ji17) : Int) x7_1
                          go_wp2_with (first | ((with_reducible refine gate_store (t := 3) (p := 46) rfl ?_); refine store_event (t := 3) (p := 46) (v := ?vo_w22) (w1 := (wr.setCell ⟨go20, ((ji17) : Int).toNat, none⟩ (.int .i64 x7_1))) ?hg ?ho ?hn ?hr ?_; (case ho => rfl); (case hg => rfl); (case hn => rfl); (case hr => first | (go_simp; done) | (go_simp; rfl)); intro w22 hw; have hg : wr.grownBy w22 (some go20) := (by rw [hw]; exact HP21.2); have hp_ : Kd.R (Kd.int .i64) 3 w22 w.heap.size (fun _ => True) (.slice (some ⟨go20, 0, none⟩) x5_2.length co20) y131 := (by rw [hw, Ny131.out]; exact HP21.1); clear HP21; have n0_ := Aside0.mk (hp_); have n1_ := Aside0.mk ((by rw [hw]; exact below_set (HB.out) GB20.out : Below w.heap.size w w22)); clear HO_5; clear HB; have HO_5 := n0_; have HB := n1_; clear n0_ n1_; clear hg hw hp_))
                          go_roundg k2
                          case measure => have := HK1.out; have := HK2.out; omega
                          case rel => exact ⟨(y131), (wrap64 (x8_2 + 1)), (by first | rfl | (simp; done) | (simp [*]; done)), H', ⟨by have := HK1.out; have := HK2.out; omega⟩, ⟨by (with_reducible repeat (first | apply Kd.R_alloc | apply Kd.R_drewN | apply Kd.R_drew)); exact HO_5.out⟩, ⟨by repeat (first | (with_reducible first | exact HB.out | apply below_alloc | apply pw_below_drewN | apply below_drew1) | exact HB.out)⟩⟩
                        · rw [if_neg c19] at H
                          exact absurd H (by simp)
                      · rw [if_neg c18] at H
                        exact absurd H (by simp)
                    · rw [if_neg c16] at H
                      have c16b0 : (x8_2 == 0) = false := beq_eq_false_iff_ne.mpr c16
                      have c16b1 : (x8_2 != 0) = true := bne_iff_ne.mpr c16
                      obtain ⟨ji23, hji23⟩ : ∃ j_ : Int, (wrap64 ((wrap64 ((wrap64 ((wrap64 (x7_1 - 1)) * (wrap64 ((a1.size : Int) + 1)))) + x8_2)) - 1)) = j_ := ⟨_, rfl⟩
                      replace H : (if 0 ≤ (ji23) then (if (ji23) < (x5_2.length : Int) then (if 0 ≤ (wrap64 (x7_1 - 1)) then (if (wrap64 (x7_1 - 1)) < (a0.size : Int) then (if 0 ≤ (wrap64 (x8_2 - 1)) then (if (wrap64 (x8_2 - 1)) < (a1.size : Int) then (if (bt a0 (wrap64 (x7_1 - 1))) = (bt a1 (wrap64 (x8_2 - 1))) then (if 0 ≤ (wrap64 ((wrap64 ((wrap64 (x7_1 - 1)) * (wrap64 ((a1.size : Int) + 1)))) + x8_2)) then (if (wrap64 ((wrap64 ((wrap64 (x7_1 - 1)) * (wrap64 ((a1.size : Int) + 1)))) + x8_2)) < (x5_2.length : Int) then (if 0 ≤ (wrap64 ((wrap64 ((wrap64 (x7_1 * (wrap64 ((a1.size : Int) + 1)))) + x8_2)) - 1)) then (if (wrap64 ((wrap64 ((wrap64 (x7_1 * (wrap64 ((a1.size : Int) + 1)))) + x8_2)) - 1)) < (x5_2.length : Int) then (if 0 ≤ (wrap64 ((wrap64 (x7_1 * (wrap64 ((a1.size : Int) + 1)))) + x8_2)) then (if (wrap64 ((wrap64 (x7_1 * (wrap64 ((a1.size : Int) + 1)))) + x8_2)) < (x5_2.length : Int) then (drachmref16_Distance.l1 k2 a0 a1 (x5_2.set ((wrap64 ((wrap64 (x7_1 * (wrap64 ((a1.size : Int) + 1)))) + x8_2)) : Int).toNat (mn (rd x5_2 (ji23)) (mn (wrap64 ((rd x5_2 (wrap64 ((wrap64 ((wrap64 (x7_1 - 1)) * (wrap64 ((a1.size : Int) + 1)))) + x8_2))) + 1)) (wrap64 ((rd x5_2 (wrap64 ((wrap64 ((wrap64 (x7_1 * (wrap64 ((a1.size : Int) + 1)))) + x8_2)) - 1))) + 1))))) (wrap64 ((a1.size : Int) + 1)) x7_1 (wrap64 (x8_2 + 1))) else (none)) else (none)) else (none)) else (none)) else (none)) else (none)) else (if 0 ≤ (wrap64 ((wrap64 ((wrap64 (x7_1 - 1)) * (wrap64 ((a1.size : Int) + 1)))) + x8_2)) then (if (wrap64 ((wrap64 ((wrap64 (x7_1 - 1)) * (wrap64 ((a1.size : Int) + 1)))) + x8_2)) < (x5_2.length : Int) then (if 0 ≤ (wrap64 ((wrap64 ((wrap64 (x7_1 * (wrap64 ((a1.size : Int) + 1)))) + x8_2)) - 1)) then (if (wrap64 ((wrap64 ((wrap64 (x7_1 * (wrap64 ((a1.size : Int) + 1)))) + x8_2)) - 1)) < (x5_2.length : Int) then (if 0 ≤ (wrap64 ((wrap64 (x7_1 * (wrap64 ((a1.size : Int) + 1)))) + x8_2)) then (if (wrap64 ((wrap64 (x7_1 * (wrap64 ((a1.size : Int) + 1)))) + x8_2)) < (x5_2.length : Int) then (drachmref16_Distance.l1 k2 a0 a1 (x5_2.set ((wrap64 ((wrap64 (x7_1 * (wrap64 ((a1.size : Int) + 1)))) + x8_2)) : Int).toNat (mn (wrap64 ((rd x5_2 (ji23)) + 1)) (mn (wrap64 ((rd x5_2 (wrap64 ((wrap64 ((wrap64 (x7_1 - 1)) * (wrap64 ((a1.size : Int) + 1)))) + x8_2))) + 1)) (wrap64 ((rd x5_2 (wrap64 ((wrap64 ((wrap64 (x7_1 * (wrap64 ((a1.size : Int) + 1)))) + x8_2)) - 1))) + 1))))) (wrap64 ((a1.size : Int) + 1)) x7_1 (wrap64 (x8_2 + 1))) else (none)) else (none)) else (none)) else (none)) else (none)) else (none))) else (none)) else (none)) else (none)) else (none)) else (none)) else (none)) = some r := by first | (rw [hji23] at H; exact H) | (simp only [hji23] at H ⊢; exact H)
                      have hji23w : (IntKind.i64.wrap ((wrap64 ((wrap64 ((wrap64 (x7_1 - 1)) * (wrap64 ((a1.size : Int) + 1)))) + x8_2)) - 1)) = ji23 := (i64_w _).trans hji23
                      by_cases c24 : 0 ≤ (ji23)
                      · rw [if_pos c24] at H
                        have c24b0 : decide (0 ≤ (ji23)) = true := decide_eq_true c24
                        clear c24
                        by_cases c25 : (ji23) < (x5_2.length : Int)
                        · rw [if_pos c25] at H
                          have c25b0 : decide ((ji23) < (x5_2.length : Int)) = true := decide_eq_true c25
                          clear c25
                          obtain ⟨ji26, hji26⟩ : ∃ j_ : Int, (wrap64 (x7_1 - 1)) = j_ := ⟨_, rfl⟩
                          replace H : (if 0 ≤ (ji26) then (if (ji26) < (a0.size : Int) then (if 0 ≤ (wrap64 (x8_2 - 1)) then (if (wrap64 (x8_2 - 1)) < (a1.size : Int) then (if (bt a0 (ji26)) = (bt a1 (wrap64 (x8_2 - 1))) then (if 0 ≤ (wrap64 ((wrap64 ((ji26) * (wrap64 ((a1.size : Int) + 1)))) + x8_2)) then (if (wrap64 ((wrap64 ((ji26) * (wrap64 ((a1.size : Int) + 1)))) + x8_2)) < (x5_2.length : Int) then (if 0 ≤ (wrap64 ((wrap64 ((wrap64 (x7_1 * (wrap64 ((a1.size : Int) + 1)))) + x8_2)) - 1)) then (if (wrap64 ((wrap64 ((wrap64 (x7_1 * (wrap64 ((a1.size : Int) + 1)))) + x8_2)) - 1)) < (x5_2.length : Int) then (if 0 ≤ (wrap64 ((wrap64 (x7_1 * (wrap64 ((a1.size : Int) + 1)))) + x8_2)) then (if (wrap64 ((wrap64 (x7_1 * (wrap64 ((a1.size : Int) + 1)))) + x8_2)) < (x5_2.length : Int) then (drachmref16_Distance.l1 k2 a0 a1 (x5_2.set ((wrap64 ((wrap64 (x7_1 * (wrap64 ((a1.size : Int) + 1)))) + x8_2)) : Int).toNat (mn (rd x5_2 (ji23)) (mn (wrap64 ((rd x5_2 (wrap64 ((wrap64 ((ji26) * (wrap64 ((a1.size : Int) + 1)))) + x8_2))) + 1)) (wrap64 ((rd x5_2 (wrap64 ((wrap64 ((wrap64 (x7_1 * (wrap64 ((a1.size : Int) + 1)))) + x8_2)) - 1))) + 1))))) (wrap64 ((a1.size : Int) + 1)) x7_1 (wrap64 (x8_2 + 1))) else (none)) else (none)) else (none)) else (none)) else (none)) else (none)) else (if 0 ≤ (wrap64 ((wrap64 ((ji26) * (wrap64 ((a1.size : Int) + 1)))) + x8_2)) then (if (wrap64 ((wrap64 ((ji26) * (wrap64 ((a1.size : Int) + 1)))) + x8_2)) < (x5_2.length : Int) then (if 0 ≤ (wrap64 ((wrap64 ((wrap64 (x7_1 * (wrap64 ((a1.size : Int) + 1)))) + x8_2)) - 1)) then (if (wrap64 ((wrap64 ((wrap64 (x7_1 * (wrap64 ((a1.size : Int) + 1)))) + x8_2)) - 1)) < (x5_2.length : Int) then (if 0 ≤ (wrap64 ((wrap64 (x7_1 * (wrap64 ((a1.size : Int) + 1)))) + x8_2)) then (if (wrap64 ((wrap64 (x7_1 * (wrap64 ((a1.size : Int) + 1)))) + x8_2)) < (x5_2.length : Int) then (drachmref16_Distance.l1 k2 a0 a1 (x5_2.set ((wrap64 ((wrap64 (x7_1 * (wrap64 ((a1.size : Int) + 1)))) + x8_2)) : Int).toNat (mn (wrap64 ((rd x5_2 (ji23)) + 1)) (mn (wrap64 ((rd x5_2 (wrap64 ((wrap64 ((ji26) * (wrap64 ((a1.size : Int) + 1)))) + x8_2))) + 1)) (wrap64 ((rd x5_2 (wrap64 ((wrap64 ((wrap64 (x7_1 * (wrap64 ((a1.size : Int) + 1)))) + x8_2)) - 1))) + 1))))) (wrap64 ((a1.size : Int) + 1)) x7_1 (wrap64 (x8_2 + 1))) else (none)) else (none)) else (none)) else (none)) else (none)) else (none))) else (none)) else (none)) else (none)) else (none)) = some r := by first | (rw [hji26] at H; exact H) | (simp only [hji26] at H ⊢; exact H)
                          have hji26w : (IntKind.i64.wrap (x7_1 - 1)) = ji26 := (i64_w _).trans hji26
                          (try (have hji23_ji26 := hji23; simp only [hji26] at hji23_ji26))
                          (try (have hji23w_ji26 := hji23w; simp only [hji26] at hji23w_ji26))
                          by_cases c27 : 0 ≤ (ji26)
                          · rw [if_pos c27] at H
                            have c27b0 : decide (0 ≤ (ji26)) = true := decide_eq_true c27
                            clear c27
                            by_cases c28 : (ji26) < (a0.size : Int)
                            · rw [if_pos c28] at H
                              have c28b0 : decide ((ji26) < (a0.size : Int)) = true := decide_eq_true c28
                              clear c28
                              obtain ⟨ji30, hji30⟩ : ∃ j_ : Int, (wrap64 (x8_2 - 1)) = j_ := ⟨_, rfl⟩
                              replace H : (if 0 ≤ (ji30) then (if (ji30) < (a1.size : Int) then (if (bt a0 (ji26)) = (bt a1 (ji30)) then (if 0 ≤ (wrap64 ((wrap64 ((ji26) * (wrap64 ((a1.size : Int) + 1)))) + x8_2)) then (if (wrap64 ((wrap64 ((ji26) * (wrap64 ((a1.size : Int) + 1)))) + x8_2)) < (x5_2.length : Int) then (if 0 ≤ (wrap64 ((wrap64 ((wrap64 (x7_1 * (wrap64 ((a1.size : Int) + 1)))) + x8_2)) - 1)) then (if (wrap64 ((wrap64 ((wrap64 (x7_1 * (wrap64 ((a1.size : Int) + 1)))) + x8_2)) - 1)) < (x5_2.length : Int) then (if 0 ≤ (wrap64 ((wrap64 (x7_1 * (wrap64 ((a1.size : Int) + 1)))) + x8_2)) then (if (wrap64 ((wrap64 (x7_1 * (wrap64 ((a1.size : Int) + 1)))) + x8_2)) < (x5_2.length : Int) then (drachmref16_Distance.l1 k2 a0 a1 (x5_2.set ((wrap64 ((wrap64 (x7_1 * (wrap64 ((a1.size : Int) + 1)))) + x8_2)) : Int).toNat (mn (rd x5_2 (ji23)) (mn (wrap64 ((rd x5_2 (wrap64 ((wrap64 ((ji26) * (wrap64 ((a1.size : Int) + 1)))) + x8_2))) + 1)) (wrap64 ((rd x5_2 (wrap64 ((wrap64 ((wrap64 (x7_1 * (wrap64 ((a1.size : Int) + 1)))) + x8_2)) - 1))) + 1))))) (wrap64 ((a1.size : Int) + 1)) x7_1 (wrap64 (x8_2 + 1))) else (none)) else (none)) else (none)) else (none)) else (none)) else (none)) else (if 0 ≤ (wrap64 ((wrap64 ((ji26) * (wrap64 ((a1.size : Int) + 1)))) + x8_2)) then (if (wrap64 ((wrap64 ((ji26) * (wrap64 ((a1.size : Int) + 1)))) + x8_2)) < (x5_2.length : Int) then (if 0 ≤ (wrap64 ((wrap64 ((wrap64 (x7_1 * (wrap64 ((a1.size : Int) + 1)))) + x8_2)) - 1)) then (if (wrap64 ((wrap64 ((wrap64 (x7_1 * (wrap64 ((a1.size : Int) + 1)))) + x8_2)) - 1)) < (x5_2.length : Int) then (if 0 ≤ (wrap64 ((wrap64 (x7_1 * (wrap64 ((a1.size : Int) + 1)))) + x8_2)) then (if (wrap64 ((wrap64 (x7_1 * (wrap64 ((a1.size : Int) + 1)))) + x8_2)) < (x5_2.length : Int) then (drachmref16_Distance.l1 k2 a0 a1 (x5_2.set ((wrap64 ((wrap64 (x7_1 * (wrap64 ((a1.size : Int) + 1)))) + x8_2)) : Int).toNat (mn (wrap64 ((rd x5_2 (ji23)) + 1)) (mn (wrap64 ((rd x5_2 (wrap64 ((wrap64 ((ji26) * (wrap64 ((a1.size : Int) + 1)))) + x8_2))) + 1)) (wrap64 ((rd x5_2 (wrap64 ((wrap64 ((wrap64 (x7_1 * (wrap64 ((a1.size : Int) + 1)))) + x8_2)) - 1))) + 1))))) (wrap64 ((a1.size : Int) + 1)) x7_1 (wrap64 (x8_2 + 1))) else (none)) else (none)) else (none)) else (none)) else (none)) else (none))) else (none)) else (none)) = some r := by first | (rw [hji30] at H; exact H) | (simp only [hji30] at H ⊢; exact H)
                              have hji30w : (IntKind.i64.wrap (x8_2 - 1)) = ji30 := (i64_w _).trans hji30
                              by_cases c31 : 0 ≤ (ji30)
                              · rw [if_pos c31] at H
                                have c31b0 : decide (0 ≤ (ji30)) = true := decide_eq_true c31
                                clear c31
                                by_cases c32 : (ji30) < (a1.size : Int)
                                · rw [if_pos c32] at H
                                  have c32b0 : decide ((ji30) < (a1.size : Int)) = true := decide_eq_true c32
                                  clear c32
                                  by_cases c34 : (bt a0 (ji26)) = (bt a1 (ji30))
                                  · rw [if_pos c34] at H
                                    have c34b0 : ((bt a0 (ji26)) == (bt a1 (ji30))) = true := beq_iff_eq.mpr c34
                                    have c34b1 : ((bt a0 (ji26)) != (bt a1 (ji30))) = false := bne_eq_false_iff_eq.mpr c34
                                    clear c34
                                    obtain ⟨ji35, hji35⟩ : ∃ j_ : Int, (wrap64 ((wrap64 ((ji26) * (wrap64 ((a1.size : Int) + 1)))) + x8_2)) = j_ := ⟨_, rfl⟩
                                    replace H : (if 0 ≤ (ji35) then (if (ji35) < (x5_2.length : Int) then (if 0 ≤ (wrap64 ((wrap64 ((wrap64 (x7_1 * (wrap64 ((a1.size : Int) + 1)))) + x8_2)) - 1)) then (if (wrap64 ((wrap64 ((wrap64 (x7_1 * (wrap64 ((a1.size : Int) + 1)))) + x8_2)) - 1)) < (x5_2.length : Int) then (if 0 ≤ (wrap64 ((wrap64 (x7_1 * (wrap64 ((a1.size : Int) + 1)))) + x8_2)) then (if (wrap64 ((wrap64 (x7_1 * (wrap64 ((a1.size : Int) + 1)))) + x8_2)) < (x5_2.length : Int) then (drachmref16_Distance.l1 k2 a0 a1 (x5_2.set ((wrap64 ((wrap64 (x7_1 * (wrap64 ((a1.size : Int) + 1)))) + x8_2)) : Int).toNat (mn (rd x5_2 (ji23)) (mn (wrap64 ((rd x5_2 (ji35)) + 1)) (wrap64 ((rd x5_2 (wrap64 ((wrap64 ((wrap64 (x7_1 * (wrap64 ((a1.size : Int) + 1)))) + x8_2)) - 1))) + 1))))) (wrap64 ((a1.size : Int) + 1)) x7_1 (wrap64 (x8_2 + 1))) else (none)) else (none)) else (none)) else (none)) else (none)) else (none)) = some r := by first | (rw [hji35] at H; exact H) | (simp only [hji35] at H ⊢; exact H)
                                    have hji35w : (IntKind.i64.wrap ((wrap64 ((ji26) * (wrap64 ((a1.size : Int) + 1)))) + x8_2)) = ji35 := (i64_w _).trans hji35
                                    (try (have hji23_ji35 := hji23; simp only [hji26, hji30, hji35] at hji23_ji35))
                                    (try (have hji23w_ji35 := hji23w; simp only [hji26, hji30, hji35] at hji23w_ji35))
                                    by_cases c36 : 0 ≤ (ji35)
                                    · rw [if_pos c36] at H
                                      have c36b0 : decide (0 ≤ (ji35)) = true := decide_eq_true c36
                                      clear c36
                                      by_cases c37 : (ji35) < (x5_2.length : Int)
                                      · rw [if_pos c37] at H
                                        have c37b0 : decide ((ji35) < (x5_2.length : Int)) = true := decide_eq_true c37
                                        clear c37
                                        obtain ⟨ji38, hji38⟩ : ∃ j_ : Int, (wrap64 ((wrap64 ((wrap64 (x7_1 * (wrap64 ((a1.size : Int) + 1)))) + x8_2)) - 1)) = j_ := ⟨_, rfl⟩
                                        replace H : (if 0 ≤ (ji38) then (if (ji38) < (x5_2.length : Int) then (if 0 ≤ (wrap64 ((wrap64 (x7_1 * (wrap64 ((a1.size : Int) + 1)))) + x8_2)) then (if (wrap64 ((wrap64 (x7_1 * (wrap64 ((a1.size : Int) + 1)))) + x8_2)) < (x5_2.length : Int) then (drachmref16_Distance.l1 k2 a0 a1 (x5_2.set ((wrap64 ((wrap64 (x7_1 * (wrap64 ((a1.size : Int) + 1)))) + x8_2)) : Int).toNat (mn (rd x5_2 (ji23)) (mn (wrap64 ((rd x5_2 (ji35)) + 1)) (wrap64 ((rd x5_2 (ji38)) + 1))))) (wrap64 ((a1.size : Int) + 1)) x7_1 (wrap64 (x8_2 + 1))) else (none)) else (none)) else (none)) else (none)) = some r := by first | (rw [hji38] at H; exact H) | (simp only [hji38] at H ⊢; exact H)
                                        have hji38w : (IntKind.i64.wrap ((wrap64 ((wrap64 (x7_1 * (wrap64 ((a1.size : Int) + 1)))) + x8_2)) - 1)) = ji38 := (i64_w _).trans hji38
                                        by_cases c39 : 0 ≤ (ji38)
                                        · rw [if_pos c39] at H
                                          have c39b0 : decide (0 ≤ (ji38)) = true := decide_eq_true c39
                                          clear c39
                                          by_cases c40 : (ji38) < (x5_2.length : Int)
                                          · rw [if_pos c40] at H
                                            have c40b0 : decide ((ji38) < (x5_2.length : Int)) = true := decide_eq_true c40
                                            clear c40
                                            obtain ⟨ji41, hji41⟩ : ∃ j_ : Int, (mn (wrap64 ((rd x5_2 (ji35)) + 1)) (wrap64 ((rd x5_2 (ji38)) + 1))) = j_ := ⟨_, rfl⟩
                                            replace H : (if 0 ≤ (wrap64 ((wrap64 (x7_1 * (wrap64 ((a1.size : Int) + 1)))) + x8_2)) then (if (wrap64 ((wrap64 (x7_1 * (wrap64 ((a1.size : Int) + 1)))) + x8_2)) < (x5_2.length : Int) then (drachmref16_Distance.l1 k2 a0 a1 (x5_2.set ((wrap64 ((wrap64 (x7_1 * (wrap64 ((a1.size : Int) + 1)))) + x8_2)) : Int).toNat (mn (rd x5_2 (ji23)) (ji41))) (wrap64 ((a1.size : Int) + 1)) x7_1 (wrap64 (x8_2 + 1))) else (none)) else (none)) = some r := by first | (rw [hji41] at H; exact H) | (simp only [hji41] at H ⊢; exact H)
                                            have hji41_ : (if (wrap64 ((rd x5_2 (ji38)) + 1)) < (wrap64 ((rd x5_2 (ji35)) + 1)) then (wrap64 ((rd x5_2 (ji38)) + 1)) else (wrap64 ((rd x5_2 (ji35)) + 1))) = ji41 := hji41
                                            obtain ⟨ji42, hji42⟩ : ∃ j_ : Int, (mn (rd x5_2 (ji23)) (ji41)) = j_ := ⟨_, rfl⟩
                                            replace H : (if 0 ≤ (wrap64 ((wrap64 (x7_1 * (wrap64 ((a1.size : Int) + 1)))) + x8_2)) then (if (wrap64 ((wrap64 (x7_1 * (wrap64 ((a1.size : Int) + 1)))) + x8_2)) < (x5_2.length : Int) then (drachmref16_Distance.l1 k2 a0 a1 (x5_2.set ((wrap64 ((wrap64 (x7_1 * (wrap64 ((a1.size : Int) + 1)))) + x8_2)) : Int).toNat (ji42)) (wrap64 ((a1.size : Int) + 1)) x7_1 (wrap64 (x8_2 + 1))) else (none)) else (none)) = some r := by first | (rw [hji42] at H; exact H) | (simp only [hji42] at H ⊢; exact H)
                                            have hji42_ : (if (ji41) < (rd x5_2 (ji23)) then (ji41) else (rd x5_2 (ji23))) = ji42 := hji42
                                            obtain ⟨ji43, hji43⟩ : ∃ j_ : Int, (wrap64 ((wrap64 (x7_1 * (wrap64 ((a1.size : Int) + 1)))) + x8_2)) = j_ := ⟨_, rfl⟩
                                            replace H : (if 0 ≤ (ji43) then (if (ji43) < (x5_2.length : Int) then (drachmref16_Distance.l1 k2 a0 a1 (x5_2.set ((ji43) : Int).toNat (ji42)) (wrap64 ((a1.size : Int) + 1)) x7_1 (wrap64 (x8_2 + 1))) else (none)) else (none)) = some r := by first | (rw [hji43] at H; exact H) | (simp only [hji43] at H ⊢; exact H)
                                            have hji43w : (IntKind.i64.wrap ((wrap64 (x7_1 * (wrap64 ((a1.size : Int) + 1)))) + x8_2)) = ji43 := (i64_w _).trans hji43
                                            (try (have hji38_ji43 := hji38; simp only [hji41, hji42, hji43] at hji38_ji43))
                                            (try (have hji38w_ji43 := hji38w; simp only [hji41, hji42, hji43] at hji38w_ji43))
                                            by_cases c44 : 0 ≤ (ji43)
                                            · rw [if_pos c44] at H
                                              have c44b0 : decide (0 ≤ (ji43)) = true := decide_eq_true c44
                                              clear c44
                                              by_cases c45 : (ji43) < (x5_2.length : Int)
                                              · rw [if_pos c45] at H
                                                have c45b0 : decide ((ji43) < (x5_2.length : Int)) = true := decide_eq_true c45
                                                clear c45
                                                obtain ⟨y135, hy135⟩ : ∃ y_ : List Int, y_ = (x5_2.set ((ji43) : Int).toNat (ji42)) := ⟨_, rfl⟩
                                                replace H : (drachmref16_Distance.l1 k2 a0 a1 y135 (wrap64 ((a1.size : Int) + 1)) x7_1 (wrap64 (x8_2 + 1))) = some r := by first | (rw [hy135]; with_reducible exact H) | (have H2_ := (Option.bind_some _ _).symm.trans H; rw [hy135]; with_reducible exact H2_) | (have H2_ := (Option.bind_some _ _).symm.trans H; with_reducible exact H2_) | with_reducible exact H | (rw [hy135]; exact H) | exact H
                                                have Ny135 := Aside0.mk hy135
                                                clear hy135
                                                have H' := Aside0.mk H
                                                clear H
                                                obtain ⟨Ao47, co47, eo47⟩ := Kd.R_slice HO_5.out
                                                subst eo47
                                                have p132 : 0 ≤ ((ji23) : Int) := of_decide_eq_true (by first | (with_reducible assumption) | assumption)
                                                have q132 : (ji23) < (x5_2.length : Int) := of_decide_eq_true (by first | (with_reducible assumption) | assumption)
                                                obtain ⟨ad132, e132, hx132_0⟩ := Kd.at_int (Kd.R_reads' HO_5.out).2.2 (ji23) p132 q132
                                                cases e132
                                                replace p132 := eq_true p132
                                                replace q132 := eq_true q132
                                                try go_wp2
                                                have n0_ := Aside0.mk (Kd.R_drew HO_5.out)
                                                have n1_ := Aside0.mk (below_drew1 HB.out)
                                                clear HO_5
                                                clear HB
                                                have HO_5 := n0_
                                                have HB := n1_
                                                clear n0_ n1_
                                                have p29 : 0 ≤ ((ji26) : Int) := of_decide_eq_true (by first | (with_reducible assumption) | assumption)
                                                have q29 : (ji26) < (a0.size : Int) := of_decide_eq_true (by first | (with_reducible assumption) | assumption)
                                                have hx29 := bt_at a0 (ji26)
                                                replace p29 := eq_true p29
                                                replace q29 := eq_true q29
                                                have p33 : 0 ≤ ((ji30) : Int) := of_decide_eq_true (by first | (with_reducible assumption) | assumption)
                                                have q33 : (ji30) < (a1.size : Int) := of_decide_eq_true (by first | (with_reducible assumption) | assumption)
                                                have hx33 := bt_at a1 (ji30)
                                                replace p33 := eq_true p33
                                                replace q33 := eq_true q33
                                                refine start_ (n := 9) (S := fun w' => True) (ds := []) #[false, false, false, false, false, false, false, false, false] (by kernel_rfl) rfl rfl trivial (fun hHeld => ?_); refine with_tabW drachmref16_Distance.tab14 drachmref16_Distance.bits14 (fun HT_ HW_ => ?_)
                                                generalize wr.drew = w48 at HO_5 HB hHeld ⊢
                                                refine pure_ (i := 0) (N := some 57) (v := ?_) (a' := ?_) #[true, false, false, false, false, false, false, false, false] rfl rfl (any_of HT_.out (by kernel_rfl)) (fun _ _ _ h => h) (Or.inl ⟨by rfl, ?_⟩) ?_ ?_
                                                rotate_left
                                                · intro w'
                                                  go_simp
                                                  with_reducible rfl
                                                rotate_left
                                                · simp only [Act.put, List.setIfInBounds_toArray, List.set_cons_zero, List.set_cons_succ, i64_w, i32_w]
                                                  rfl
                                                refine pure_ (i := 1) (N := some 58) (v := ?_) (a' := ?_) #[true, true, false, false, false, false, false, false, false] rfl rfl (any_of HT_.out (by kernel_rfl)) (fun _ _ _ h => h) (Or.inl ⟨by rfl, ?_⟩) ?_ ?_
                                                rotate_left
                                                · intro w'
                                                  go_simp
                                                  with_reducible rfl
                                                rotate_left
                                                · simp only [Act.put, List.setIfInBounds_toArray, List.set_cons_zero, List.set_cons_succ, i64_w, i32_w]
                                                  rfl
                                                refine pure_ (i := 2) (N := some 59) (v := ?_) (a' := ?_) #[true, true, true, false, false, false, false, false, false] rfl rfl (any_of HT_.out (by kernel_rfl)) (fun _ _ _ h => h) (Or.inl ⟨by rfl, ?_⟩) ?_ ?_
                                                rotate_left
                                                · intro w'
                                                  go_simp
                                                  with_reducible rfl
                                                rotate_left
                                                · simp only [Act.put, List.setIfInBounds_toArray, List.set_cons_zero, List.set_cons_succ, i64_w, i32_w]
                                                  rfl
                                                refine pure_ (i := 4) (N := some 61) (v := ?_) (a' := ?_) #[true, true, true, false, true, false, false, false, false] rfl rfl (any_of HT_.out (by kernel_rfl)) (fun _ _ _ h => h) (Or.inl ⟨by rfl, ?_⟩) ?_ ?_
                                                rotate_left
                                                · intro w'
                                                  go_simp
                                                  with_reducible rfl
                                                rotate_left
                                                · simp only [Act.put, List.setIfInBounds_toArray, List.set_cons_zero, List.set_cons_succ, i64_w, i32_w]
                                                  rfl
                                                refine pure_ (i := 5) (N := some 62) (v := ?_) (a' := ?_) #[true, true, true, false, true, true, false, false, false] rfl rfl (any_of HT_.out (by kernel_rfl)) (fun _ _ _ h => h) (Or.inl ⟨by rfl, ?_⟩) ?_ ?_
                                                rotate_left
                                                · intro w'
                                                  go_simp
                                                  with_reducible rfl
                                                rotate_left
                                                · simp only [Act.put, List.setIfInBounds_toArray, List.set_cons_zero, List.set_cons_succ, i64_w, i32_w]
                                                  rfl
                                                refine pure_ (i := 6) (N := some 63) (v := ?_) (a' := ?_) #[true, true, true, false, true, true, true, false, false] rfl rfl (any_of HT_.out (by kernel_rfl)) (fun _ _ _ h => h) (Or.inl ⟨by rfl, ?_⟩) ?_ ?_
                                                rotate_left
                                                · intro w'
                                                  go_simp
                                                  with_reducible rfl
                                                rotate_left
                                                · simp only [Act.put, List.setIfInBounds_toArray, List.set_cons_zero, List.set_cons_succ, i64_w, i32_w]
                                                  rfl
                                                refine take_ (i := 3) (N := some 60) (v := ?_) (a' := ?_) #[true, true, true, true, true, true, true, false, false] rfl rfl (take_ofW HT_.out HW_.out (by kernel_rfl)) (fun _ _ _ h => h) (Or.inl ⟨by rfl, ?_⟩) hHeld ?_ ?_
                                                rotate_left
                                                · intro w' _
                                                  go_simp
                                                  with_reducible rfl
                                                rotate_left
                                                · simp only [Act.put, List.setIfInBounds_toArray, List.set_cons_zero, List.set_cons_succ, i64_w, i32_w]
                                                  rfl
                                                refine take_ (i := 7) (N := some 64) (v := ?_) (a' := ?_) #[true, true, true, true, true, true, true, true, false] rfl rfl (take_ofW HT_.out HW_.out (by kernel_rfl)) (fun _ _ _ h => h) (Or.inl ⟨by rfl, ?_⟩) hHeld ?_ ?_
                                                rotate_left
                                                · intro w' _
                                                  go_simp
                                                  with_reducible rfl
                                                rotate_left
                                                · simp only [Act.put, List.setIfInBounds_toArray, List.set_cons_zero, List.set_cons_succ, i64_w, i32_w]
                                                  rfl
                                                refine pure_ (i := 8) (N := some 65) (v := ?_) (a' := ?_) #[true, true, true, true, true, true, true, true, true] rfl rfl (any_of HT_.out (by kernel_rfl)) (fun _ _ _ h => h) (Or.inl ⟨by rfl, ?_⟩) ?_ ?_
                                                rotate_left
                                                · intro w'
                                                  go_simp
                                                  with_reducible rfl
                                                rotate_left
                                                · simp only [Act.put, List.setIfInBounds_toArray, List.set_cons_zero, List.set_cons_succ, i64_w, i32_w]
                                                  rfl
                                                refine done_ (done_of HT_.out (by kernel_rfl)) ?_
                                                try go_wp2
                                                have n0_ := Aside0.mk (Kd.R_drew HO_5.out)
                                                have n1_ := Aside0.mk (below_drew1 HB.out)
                                                clear HO_5
                                                clear HB
                                                have HO_5 := n0_
                                                have HB := n1_
                                                clear n0_ n1_
                                                have p133 : 0 ≤ ((ji35) : Int) := of_decide_eq_true (by first | (with_reducible assumption) | assumption)
                                                have q133 : (ji35) < (x5_2.length : Int) := of_decide_eq_true (by first | (with_reducible assumption) | assumption)
                                                obtain ⟨ad133, e133, hx133_0⟩ := Kd.at_int (Kd.R_reads' HO_5.out).2.2 (ji35) p133 q133
                                                obtain rfl : ad132 = ad133 := (by injection e133)
                                                replace p133 := eq_true p133
                                                replace q133 := eq_true q133
                                                have p134 : 0 ≤ ((ji38) : Int) := of_decide_eq_true (by first | (with_reducible assumption) | assumption)
                                                have q134 : (ji38) < (x5_2.length : Int) := of_decide_eq_true (by first | (with_reducible assumption) | assumption)
                                                obtain ⟨ad134, e134, hx134_0⟩ := Kd.at_int (Kd.R_reads' HO_5.out).2.2 (ji38) p134 q134
                                                obtain rfl : ad132 = ad134 := (by injection e134)
                                                replace p134 := eq_true p134
                                                replace q134 := eq_true q134
                                                have p46 : 0 ≤ ((ji43) : Int) := of_decide_eq_true (by first | (with_reducible assumption) | assumption)
                                                have q46 : ((ji43) : Int) < ((x5_2.length : Int) : Int) := of_decide_eq_true (by first | (with_reducible assumption) | assumption)
                                                obtain ⟨go46, co46, eo46, gb46, gl46, cl46, HG46⟩ := Kd.R_form HO_5.out (by omega)
                                                (first | cases eo46 | (injection eo46 with ea_ en_ ec_; (first | subst ea_ | (injection ea_ with ea_; subst ea_)); subst ec_; clear en_))
                                                have GB46 := Aside0.mk gb46
                                                have GG46 := Aside0.mk HG46
                                                clear gb46 gl46 HG46
                                                (first | simp only [add_plain] at hx132_0 | skip)
                                                (first | simp only [add_plain] at hx133_0 | skip)
                                                (first | simp only [add_plain] at hx134_0 | skip)
                                                obtain ⟨hx46_0, hf46_0⟩ := Kd.R_celln 0 HO_5.out ((ji43) : Int) p46 q46
                                                replace p46 := eq_true p46
                                                replace q46 := eq_true q46
                                                have HP50 := Kd.R_putn HO_5.out ((ji43) : Int) ji42
                                                rw [← Ny135.out] at HP50
                                                have HQ50 := Aside0.mk HP50
                                                clear HP50
                                                refine start_ (n := 31) (S := fun w' => w'.cell? ⟨go46, ((ji35)).toNat, none⟩ = some (.int .i64 (rd x5_2 (ji35))) ∧ w'.cell? ⟨go46, ((ji38)).toNat, none⟩ = some (.int .i64 (rd x5_2 (ji38)))) (ds := [30]) #[false, false, false, false, false, false, false, false, false, false, false, false, false, false, false, false, false, false, false, false, false, false, false, false, false, false, false, false, false, false, false] (by kernel_rfl) rfl rfl ⟨hx133_0, hx134_0⟩ (fun hHeld => ?_); refine with_tabW drachmref16_Distance.tab16 drachmref16_Distance.bits16 (fun HT_ HW_ => ?_)
                                                generalize w48.drew = w49 at HO_5 HB GG46 HQ50 hf46_0 hx132_0 hx133_0 hx134_0 hx46_0 hHeld ⊢
                                                refine pure_ (i := 0) (N := some 68) (v := ?_) (a' := ?_) #[true, false, false, false, false, false, false, false, false, false, false, false, false, false, false, false, false, false, false, false, false, false, false, false, false, false, false, false, false, false, false] rfl rfl (any_of HT_.out (by kernel_rfl)) (fun _ _ _ h => h) (Or.inl ⟨by rfl, ?_⟩) ?_ ?_
                                                rotate_left
                                                · intro w'
                                                  go_simp
                                                  with_reducible rfl
                                                rotate_left
                                                · simp only [Act.put, List.setIfInBounds_toArray, List.set_cons_zero, List.set_cons_succ, i64_w, i32_w]
                                                  rfl
                                                refine pure_ (i := 1) (N := some 69) (v := ?_) (a' := ?_) #[true, true, false, false, false, false, false, false, false, false, false, false, false, false, false, false, false, false, false, false, false, false, false, false, false, false, false, false, false, false, false] rfl rfl (any_of HT_.out (by kernel_rfl)) (fun _ _ _ h => h) (Or.inl ⟨by rfl, ?_⟩) ?_ ?_
                                                rotate_left
                                                · intro w'
                                                  go_simp
                                                  with_reducible rfl
                                                rotate_left
                                                · simp only [Act.put, List.setIfInBounds_toArray, List.set_cons_zero, List.set_cons_succ, i64_w, i32_w]
                                                  rfl
                                                refine pure_ (i := 2) (N := some 70) (v := ?_) (a' := ?_) #[true, true, true, false, false, false, false, false, false, false, false, false, false, false, false, false, false, false, false, false, false, false, false, false, false, false, false, false, false, false, false] rfl rfl (any_of HT_.out (by kernel_rfl)) (fun _ _ _ h => h) (Or.inl ⟨by rfl, ?_⟩) ?_ ?_
                                                rotate_left
                                                · intro w'
                                                  go_simp
                                                  with_reducible rfl
                                                rotate_left
                                                · simp only [Act.put, List.setIfInBounds_toArray, List.set_cons_zero, List.set_cons_succ, i64_w, i32_w]
                                                  rfl
                                                refine pure_ (i := 3) (N := some 71) (v := ?_) (a' := ?_) #[true, true, true, true, false, false, false, false, false, false, false, false, false, false, false, false, false, false, false, false, false, false, false, false, false, false, false, false, false, false, false] rfl rfl (any_of HT_.out (by kernel_rfl)) (fun _ _ _ h => h) (Or.inl ⟨by rfl, ?_⟩) ?_ ?_
                                                rotate_left
                                                · intro w'
                                                  go_simp
                                                  with_reducible rfl
                                                rotate_left
                                                · simp only [Act.put, List.setIfInBounds_toArray, List.set_cons_zero, List.set_cons_succ, i64_w, i32_w]
                                                  rfl
                                                refine pure_ (i := 4) (N := some 72) (v := ?_) (a' := ?_) #[true, true, true, true, true, false, false, false, false, false, false, false, false, false, false, false, false, false, false, false, false, false, false, false, false, false, false, false, false, false, false] rfl rfl (any_of HT_.out (by kernel_rfl)) (fun _ _ _ h => h) (Or.inl ⟨by rfl, ?_⟩) ?_ ?_
                                                rotate_left
                                                · intro w'
                                                  go_simp
                                                  with_reducible rfl
                                                rotate_left
                                                · simp only [Act.put, List.setIfInBounds_toArray, List.set_cons_zero, List.set_cons_succ, i64_w, i32_w]
                                                  rfl
                                                refine pure_ (i := 5) (N := some 73) (v := ?_) (a' := ?_) #[true, true, true, true, true, true, false, false, false, false, false, false, false, false, false, false, false, false, false, false, false, false, false, false, false, false, false, false, false, false, false] rfl rfl (any_of HT_.out (by kernel_rfl)) (fun _ _ _ h => h) (Or.inl ⟨by rfl, ?_⟩) ?_ ?_
                                                rotate_left
                                                · intro w'
                                                  go_simp
                                                  with_reducible rfl
                                                rotate_left
                                                · simp only [Act.put, List.setIfInBounds_toArray, List.set_cons_zero, List.set_cons_succ, i64_w, i32_w]
                                                  rfl
                                                refine pure_ (i := 6) (N := some 74) (v := ?_) (a' := ?_) #[true, true, true, true, true, true, true, false, false, false, false, false, false, false, false, false, false, false, false, false, false, false, false, false, false, false, false, false, false, false, false] rfl rfl (any_of HT_.out (by kernel_rfl)) (fun _ _ _ h => h) (Or.inl ⟨by rfl, ?_⟩) ?_ ?_
                                                rotate_left
                                                · intro w'
                                                  go_simp
                                                  with_reducible rfl
                                                rotate_left
                                                · simp only [Act.put, List.setIfInBounds_toArray, List.set_cons_zero, List.set_cons_succ, i64_w, i32_w]
                                                  rfl
                                                refine pure_ (i := 7) (N := some 75) (v := ?_) (a' := ?_) #[true, true, true, true, true, true, true, true, false, false, false, false, false, false, false, false, false, false, false, false, false, false, false, false, false, false, false, false, false, false, false] rfl rfl (any_of HT_.out (by kernel_rfl)) (fun _ _ _ h => h) (Or.inl ⟨by rfl, ?_⟩) ?_ ?_
                                                rotate_left
                                                · intro w'
                                                  go_simp
                                                  with_reducible rfl
                                                rotate_left
                                                · simp only [Act.put, List.setIfInBounds_toArray, List.set_cons_zero, List.set_cons_succ, i64_w, i32_w]
                                                  rfl
                                                refine pure_ (i := 8) (N := some 76) (v := ?_) (a' := ?_) #[true, true, true, true, true, true, true, true, true, false, false, false, false, false, false, false, false, false, false, false, false, false, false, false, false, false, false, false, false, false, false] rfl rfl (any_of HT_.out (by kernel_rfl)) (fun _ _ _ h => h) (Or.inl ⟨by rfl, ?_⟩) ?_ ?_
                                                rotate_left
                                                · intro w'
                                                  go_simp
                                                  with_reducible rfl
                                                rotate_left
                                                · simp only [Act.put, List.setIfInBounds_toArray, List.set_cons_zero, List.set_cons_succ, i64_w, i32_w]
                                                  rfl
                                                refine pure_ (i := 9) (N := some 77) (v := ?_) (a' := ?_) #[true, true, true, true, true, true, true, true, true, true, false, false, false, false, false, false, false, false, false, false, false, false, false, false, false, false, false, false, false, false, false] rfl rfl (any_of HT_.out (by kernel_rfl)) (fun _ _ _ h => h) (Or.inl ⟨by rfl, ?_⟩) ?_ ?_
                                                rotate_left
                                                · intro w'
                                                  go_simp
                                                  with_reducible rfl
                                                rotate_left
                                                · simp only [Act.put, List.setIfInBounds_toArray, List.set_cons_zero, List.set_cons_succ, i64_w, i32_w]
                                                  rfl
                                                refine pure_ (i := 10) (N := some 78) (v := ?_) (a' := ?_) #[true, true, true, true, true, true, true, true, true, true, true, false, false, false, false, false, false, false, false, false, false, false, false, false, false, false, false, false, false, false, false] rfl rfl (any_of HT_.out (by kernel_rfl)) (fun _ _ _ h => h) (Or.inl ⟨by rfl, ?_⟩) ?_ ?_
                                                rotate_left
                                                · intro w'
                                                  go_simp
                                                  with_reducible rfl
                                                rotate_left
                                                · simp only [Act.put, List.setIfInBounds_toArray, List.set_cons_zero, List.set_cons_succ, i64_w, i32_w]
                                                  rfl
                                                refine pure_ (i := 11) (N := some 79) (v := ?_) (a' := ?_) #[true, true, true, true, true, true, true, true, true, true, true, true, false, false, false, false, false, false, false, false, false, false, false, false, false, false, false, false, false, false, false] rfl rfl (any_of HT_.out (by kernel_rfl)) (fun _ _ _ h => h) (Or.inl ⟨by rfl, ?_⟩) ?_ ?_
                                                rotate_left
                                                · intro w'
                                                  go_simp
                                                  with_reducible rfl
                                                rotate_left
                                                · simp only [Act.put, List.setIfInBounds_toArray, List.set_cons_zero, List.set_cons_succ, i64_w, i32_w]
                                                  rfl
                                                refine pure_ (i := 12) (N := some 80) (v := ?_) (a' := ?_) #[true, true, true, true, true, true, true, true, true, true, true, true, true, false, false, false, false, false, false, false, false, false, false, false, false, false, false, false, false, false, false] rfl rfl (any_of HT_.out (by kernel_rfl)) (fun _ _ _ h => h) (Or.inl ⟨by rfl, ?_⟩) ?_ ?_
                                                rotate_left
                                                · intro w'
                                                  go_simp
                                                  with_reducible rfl
                                                rotate_left
                                                · simp only [Act.put, List.setIfInBounds_toArray, List.set_cons_zero, List.set_cons_succ, i64_w, i32_w]
                                                  rfl
                                                refine pure_ (i := 13) (N := some 81) (v := ?_) (a' := ?_) #[true, true, true, true, true, true, true, true, true, true, true, true, true, true, false, false, false, false, false, false, false, false, false, false, false, false, false, false, false, false, false] rfl rfl (any_of HT_.out (by kernel_rfl)) (fun _ _ _ h => h) (Or.inl ⟨by rfl, ?_⟩) ?_ ?_
                                                rotate_left
                                                · intro w'
                                                  go_simp
                                                  with_reducible rfl
                                                rotate_left
                                                · simp only [Act.put, List.setIfInBounds_toArray, List.set_cons_zero, List.set_cons_succ, i64_w, i32_w]
                                                  rfl
                                                refine pure_ (i := 14) (N := some 82) (v := ?_) (a' := ?_) #[true, true, true, true, true, true, true, true, true, true, true, true, true, true, true, false, false, false, false, false, false, false, false, false, false, false, false, false, false, false, false] rfl rfl (any_of HT_.out (by kernel_rfl)) (fun _ _ _ h => h) (Or.inl ⟨by rfl, ?_⟩) ?_ ?_
                                                rotate_left
                                                · intro w'
                                                  go_simp
                                                  with_reducible rfl
                                                rotate_left
                                                · simp only [Act.put, List.setIfInBounds_toArray, List.set_cons_zero, List.set_cons_succ, i64_w, i32_w]
                                                  rfl
                                                refine pure_ (i := 17) (N := some 85) (v := ?_) (a' := ?_) #[true, true, true, true, true, true, true, true, true, true, true, true, true, true, true, false, false, true, false, false, false, false, false, false, false, false, false, false, false, false, false] rfl rfl (any_of HT_.out (by kernel_rfl)) (fun _ _ _ h => h) (Or.inl ⟨by rfl, ?_⟩) ?_ ?_
                                                rotate_left
                                                · intro w'
                                                  go_simp
                                                  with_reducible rfl
                                                rotate_left
                                                · simp only [Act.put, List.setIfInBounds_toArray, List.set_cons_zero, List.set_cons_succ, i64_w, i32_w]
                                                  rfl
                                                refine pure_ (i := 18) (N := some 86) (v := ?_) (a' := ?_) #[true, true, true, true, true, true, true, true, true, true, true, true, true, true, true, false, false, true, true, false, false, false, false, false, false, false, false, false, false, false, false] rfl rfl (any_of HT_.out (by kernel_rfl)) (fun _ _ _ h => h) (Or.inl ⟨by rfl, ?_⟩) ?_ ?_
                                                rotate_left
                                                · intro w'
                                                  go_simp
                                                  with_reducible rfl
                                                rotate_left
                                                · simp only [Act.put, List.setIfInBounds_toArray, List.set_cons_zero, List.set_cons_succ, i64_w, i32_w]
                                                  rfl
                                                refine pure_ (i := 19) (N := some 87) (v := ?_) (a' := ?_) #[true, true, true, true, true, true, true, true, true, true, true, true, true, true, true, false, false, true, true, true, false, false, false, false, false, false, false, false, false, false, false] rfl rfl (any_of HT_.out (by kernel_rfl)) (fun _ _ _ h => h) (Or.inl ⟨by rfl, ?_⟩) ?_ ?_
                                                rotate_left
                                                · intro w'
                                                  go_simp
                                                  with_reducible rfl
                                                rotate_left
                                                · simp only [Act.put, List.setIfInBounds_toArray, List.set_cons_zero, List.set_cons_succ, i64_w, i32_w]
                                                  rfl
                                                refine pure_ (i := 20) (N := some 88) (v := ?_) (a' := ?_) #[true, true, true, true, true, true, true, true, true, true, true, true, true, true, true, false, false, true, true, true, true, false, false, false, false, false, false, false, false, false, false] rfl rfl (any_of HT_.out (by kernel_rfl)) (fun _ _ _ h => h) (Or.inl ⟨by rfl, ?_⟩) ?_ ?_
                                                rotate_left
                                                · intro w'
                                                  go_simp
                                                  with_reducible rfl
                                                rotate_left
                                                · simp only [Act.put, List.setIfInBounds_toArray, List.set_cons_zero, List.set_cons_succ, i64_w, i32_w]
                                                  rfl
                                                refine pure_ (i := 21) (N := some 89) (v := ?_) (a' := ?_) #[true, true, true, true, true, true, true, true, true, true, true, true, true, true, true, false, false, true, true, true, true, true, false, false, false, false, false, false, false, false, false] rfl rfl (any_of HT_.out (by kernel_rfl)) (fun _ _ _ h => h) (Or.inl ⟨by rfl, ?_⟩) ?_ ?_
                                                rotate_left
                                                · intro w'
                                                  go_simp
                                                  with_reducible rfl
                                                rotate_left
                                                · simp only [Act.put, List.setIfInBounds_toArray, List.set_cons_zero, List.set_cons_succ, i64_w, i32_w]
                                                  rfl
                                                refine pure_ (i := 22) (N := some 90) (v := ?_) (a' := ?_) #[true, true, true, true, true, true, true, true, true, true, true, true, true, true, true, false, false, true, true, true, true, true, true, false, false, false, false, false, false, false, false] rfl rfl (any_of HT_.out (by kernel_rfl)) (fun _ _ _ h => h) (Or.inl ⟨by rfl, ?_⟩) ?_ ?_
                                                rotate_left
                                                · intro w'
                                                  go_simp
                                                  with_reducible rfl
                                                rotate_left
                                                · simp only [Act.put, List.setIfInBounds_toArray, List.set_cons_zero, List.set_cons_succ, i64_w, i32_w]
                                                  rfl
                                                refine pure_ (i := 23) (N := some 91) (v := ?_) (a' := ?_) #[true, true, true, true, true, true, true, true, true, true, true, true, true, true, true, false, false, true, true, true, true, true, true, true, false, false, false, false, false, false, false] rfl rfl (any_of HT_.out (by kernel_rfl)) (fun _ _ _ h => h) (Or.inl ⟨by rfl, ?_⟩) ?_ ?_
                                                rotate_left
                                                · intro w'
                                                  go_simp
                                                  with_reducible rfl
                                                rotate_left
                                                · simp only [Act.put, List.setIfInBounds_toArray, List.set_cons_zero, List.set_cons_succ, i64_w, i32_w]
                                                  rfl
                                                refine pure_ (i := 24) (N := some 92) (v := ?_) (a' := ?_) #[true, true, true, true, true, true, true, true, true, true, true, true, true, true, true, false, false, true, true, true, true, true, true, true, true, false, false, false, false, false, false] rfl rfl (any_of HT_.out (by kernel_rfl)) (fun _ _ _ h => h) (Or.inl ⟨by rfl, ?_⟩) ?_ ?_
                                                rotate_left
                                                · intro w'
                                                  go_simp
                                                  with_reducible rfl
                                                rotate_left
                                                · simp only [Act.put, List.setIfInBounds_toArray, List.set_cons_zero, List.set_cons_succ, i64_w, i32_w]
                                                  rfl
                                                refine take_ (i := 15) (N := some 83) (v := ?_) (a' := ?_) #[true, true, true, true, true, true, true, true, true, true, true, true, true, true, true, true, false, true, true, true, true, true, true, true, true, false, false, false, false, false, false] rfl rfl (take_ofW HT_.out HW_.out (by kernel_rfl)) (fun _ _ _ h => h) (Or.inl ⟨by rfl, ?_⟩) hHeld ?_ ?_
                                                rotate_left
                                                · rintro w' ⟨s0, s1⟩
                                                  go_simp
                                                  with_reducible rfl
                                                rotate_left
                                                · simp only [Act.put, List.setIfInBounds_toArray, List.set_cons_zero, List.set_cons_succ, i64_w, i32_w]
                                                  rfl
                                                refine pure_ (i := 16) (N := some 84) (v := ?_) (a' := ?_) #[true, true, true, true, true, true, true, true, true, true, true, true, true, true, true, true, true, true, true, true, true, true, true, true, true, false, false, false, false, false, false] rfl rfl (any_of HT_.out (by kernel_rfl)) (fun _ _ _ h => h) (Or.inl ⟨by rfl, ?_⟩) ?_ ?_
                                                rotate_left
                                                · intro w'
                                                  go_simp
                                                  with_reducible rfl
                                                rotate_left
                                                · simp only [Act.put, List.setIfInBounds_toArray, List.set_cons_zero, List.set_cons_succ, i64_w, i32_w]
                                                  rfl
                                                refine take_ (i := 25) (N := some 93) (v := ?_) (a' := ?_) #[true, true, true, true, true, true, true, true, true, true, true, true, true, true, true, true, true, true, true, true, true, true, true, true, true, true, false, false, false, false, false] rfl rfl (take_ofW HT_.out HW_.out (by kernel_rfl)) (fun _ _ _ h => h) (Or.inl ⟨by rfl, ?_⟩) hHeld ?_ ?_
                                                rotate_left
                                                · rintro w' ⟨s0, s1⟩
                                                  go_simp
                                                  with_reducible rfl
                                                rotate_left
                                                · simp only [Act.put, List.setIfInBounds_toArray, List.set_cons_zero, List.set_cons_succ, i64_w, i32_w]
                                                  rfl
                                                refine pure_ (i := 26) (N := some 94) (v := ?_) (a' := ?_) #[true, true, true, true, true, true, true, true, true, true, true, true, true, true, true, true, true, true, true, true, true, true, true, true, true, true, true, false, false, false, false] rfl rfl (any_of HT_.out (by kernel_rfl)) (fun _ _ _ h => h) (Or.inl ⟨by rfl, ?_⟩) ?_ ?_
                                                rotate_left
                                                · intro w'
                                                  go_simp
                                                  with_reducible rfl
                                                rotate_left
                                                · simp only [Act.put, List.setIfInBounds_toArray, List.set_cons_zero, List.set_cons_succ, i64_w, i32_w]
                                                  rfl
                                                refine pure_ (i := 27) (N := some 95) (v := ?_) (a' := ?_) #[true, true, true, true, true, true, true, true, true, true, true, true, true, true, true, true, true, true, true, true, true, true, true, true, true, true, true, true, false, false, false] rfl rfl (any_of HT_.out (by kernel_rfl)) (fun _ _ _ h => h) (Or.inl ⟨by rfl, ?_⟩) ?_ ?_
                                                rotate_left
                                                · intro w'
                                                  go_simp
                                                  with_reducible rfl
                                                rotate_left
                                                · simp only [Act.put, List.setIfInBounds_toArray, List.set_cons_zero, List.set_cons_succ, i64_w, i32_w]
                                                  rfl
                                                refine pure_ (i := 28) (N := some 96) (v := ?_) (a' := ?_) #[true, true, true, true, true, true, true, true, true, true, true, true, true, true, true, true, true, true, true, true, true, true, true, true, true, true, true, true, true, false, false] rfl rfl (any_of HT_.out (by kernel_rfl)) (fun _ _ _ h => h) (Or.inl ⟨by rfl, ?_⟩) ?_ ?_
                                                rotate_left
                                                · intro w'
                                                  go_simp
                                                  with_reducible rfl
                                                rotate_left
                                                · simp only [Act.put, List.setIfInBounds_toArray, List.set_cons_zero, List.set_cons_succ, i64_w, i32_w]
                                                  rfl
                                                refine pure_ (i := 29) (N := some 97) (v := ?_) (a' := ?_) #[true, true, true, true, true, true, true, true, true, true, true, true, true, true, true, true, true, true, true, true, true, true, true, true, true, true, true, true, true, true, false] rfl rfl (any_of HT_.out (by kernel_rfl)) (fun _ _ _ h => h) (Or.inl ⟨by rfl, ?_⟩) ?_ ?_
                                                rotate_left
                                                · intro w'
                                                  go_simp
                                                  with_reducible rfl
                                                rotate_left
                                                · simp only [Act.put, List.setIfInBounds_toArray, List.set_cons_zero, List.set_cons_succ, i64_w, i32_w]
                                                  rfl
                                                refine last_ (i := 30) (N := none) #[true, true, true, true, true, true, true, true, true, true, true, true, true, true, true, true, true, true, true, true, true, true, true, true, true, true, true, true, true, true, true] rfl rfl (one_of HT_.out (by kernel_rfl)) (by decide) (fun K hK => ?_)
                                                refine skip_ (w1 := ?_) (by rfl) rfl ?_ ?_
                                                rotate_left
                                                · go_simp
                                                  rfl
                                                refine hK.out _ _ ?_
                                                clear hK K
                                                refine done_ (done_of HT_.out (by kernel_rfl)) ?_
                                                try go_wp2
                                                go_roundg k2
                                                case measure => have := HK1.out; have := HK2.out; omega
                                                case rel => exact ⟨(y135), (wrap64 (x8_2 + 1)), (by first | rfl | (simp; done) | (simp [*]; done)), H', ⟨by have := HK1.out; have := HK2.out; omega⟩, ⟨by (with_reducible repeat (first | apply Kd.R_alloc | apply Kd.R_drewN | apply Kd.R_drew)); exact HQ50.out⟩, ⟨by repeat (first | (with_reducible first | exact HB.out | apply below_alloc | apply pw_below_drewN | apply below_drew1 | refine below_set ?_ GB46.out) | exact HB.out)⟩⟩
                                              · rw [if_neg c45] at H
                                                exact absurd H (by simp)
                                            · rw [if_neg c44] at H
                                              exact absurd H (by simp)
                                          · rw [if_neg c40] at H
                                            exact absurd H (by simp)
                                        · rw [if_neg c39] at H
                                          exact absurd H (by simp)
                                      · rw [if_neg c37] at H
                                        exact absurd H (by simp)
                                    · rw [if_neg c36] at H
                                      exact absurd H (by simp)
                                  · rw [if_neg c34] at H
                                    have c34b0 : ((bt a0 (ji26)) == (bt a1 (ji30))) = false := beq_eq_false_iff_ne.mpr c34
                                    have c34b1 : ((bt a0 (ji26)) != (bt a1 (ji30))) = true := bne_iff_ne.mpr c34
                                    obtain ⟨ji51, hji51⟩ : ∃ j_ : Int, (wrap64 ((wrap64 ((ji26) * (wrap64 ((a1.size : Int) + 1)))) + x8_2)) = j_ := ⟨_, rfl⟩
                                    replace H : (if 0 ≤ (ji51) then (if (ji51) < (x5_2.length : Int) then (if 0 ≤ (wrap64 ((wrap64 ((wrap64 (x7_1 * (wrap64 ((a1.size : Int) + 1)))) + x8_2)) - 1)) then (if (wrap64 ((wrap64 ((wrap64 (x7_1 * (wrap64 ((a1.size : Int) + 1)))) + x8_2)) - 1)) < (x5_2.length : Int) then (if 0 ≤ (wrap64 ((wrap64 (x7_1 * (wrap64 ((a1.size : Int) + 1)))) + x8_2)) then (if (wrap64 ((wrap64 (x7_1 * (wrap64 ((a1.size : Int) + 1)))) + x8_2)) < (x5_2.length : Int) then (drachmref16_Distance.l1 k2 a0 a1 (x5_2.set ((wrap64 ((wrap64 (x7_1 * (wrap64 ((a1.size : Int) + 1)))) + x8_2)) : Int).toNat (mn (wrap64 ((rd x5_2 (ji23)) + 1)) (mn (wrap64 ((rd x5_2 (ji51)) + 1)) (wrap64 ((rd x5_2 (wrap64 ((wrap64 ((wrap64 (x7_1 * (wrap64 ((a1.size : Int) + 1)))) + x8_2)) - 1))) + 1))))) (wrap64 ((a1.size : Int) + 1)) x7_1 (wrap64 (x8_2 + 1))) else (none)) else (none)) else (none)) else (none)) else (none)) else (none)) = some r := by first | (rw [hji51] at H; exact H) | (simp only [hji51] at H ⊢; exact H)
                                    have hji51w : (IntKind.i64.wrap ((wrap64 ((ji26) * (wrap64 ((a1.size : Int) + 1)))) + x8_2)) = ji51 := (i64_w _).trans hji51
                                    (try (have hji23_ji51 := hji23; simp only [hji26, hji30, hji51] at hji23_ji51))
                                    (try (have hji23w_ji51 := hji23w; simp only [hji26, hji30, hji51] at hji23w_ji51))
                                    by_cases c52 : 0 ≤ (ji51)
                                    · rw [if_pos c52] at H
                                      have c52b0 : decide (0 ≤ (ji51)) = true := decide_eq_true c52
                                      clear c52
                                      by_cases c53 : (ji51) < (x5_2.length : Int)
                                      · rw [if_pos c53] at H
                                        have c53b0 : decide ((ji51) < (x5_2.length : Int)) = true := decide_eq_true c53
                                        clear c53
                                        obtain ⟨ji54, hji54⟩ : ∃ j_ : Int, (wrap64 ((wrap64 ((wrap64 (x7_1 * (wrap64 ((a1.size : Int) + 1)))) + x8_2)) - 1)) = j_ := ⟨_, rfl⟩
                                        replace H : (if 0 ≤ (ji54) then (if (ji54) < (x5_2.length : Int) then (if 0 ≤ (wrap64 ((wrap64 (x7_1 * (wrap64 ((a1.size : Int) + 1)))) + x8_2)) then (if (wrap64 ((wrap64 (x7_1 * (wrap64 ((a1.size : Int) + 1)))) + x8_2)) < (x5_2.length : Int) then (drachmref16_Distance.l1 k2 a0 a1 (x5_2.set ((wrap64 ((wrap64 (x7_1 * (wrap64 ((a1.size : Int) + 1)))) + x8_2)) : Int).toNat (mn (wrap64 ((rd x5_2 (ji23)) + 1)) (mn (wrap64 ((rd x5_2 (ji51)) + 1)) (wrap64 ((rd x5_2 (ji54)) + 1))))) (wrap64 ((a1.size : Int) + 1)) x7_1 (wrap64 (x8_2 + 1))) else (none)) else (none)) else (none)) else (none)) = some r := by first | (rw [hji54] at H; exact H) | (simp only [hji54] at H ⊢; exact H)
                                        have hji54w : (IntKind.i64.wrap ((wrap64 ((wrap64 (x7_1 * (wrap64 ((a1.size : Int) + 1)))) + x8_2)) - 1)) = ji54 := (i64_w _).trans hji54
                                        by_cases c55 : 0 ≤ (ji54)
                                        · rw [if_pos c55] at H
                                          have c55b0 : decide (0 ≤ (ji54)) = true := decide_eq_true c55
                                          clear c55
                                          by_cases c56 : (ji54) < (x5_2.length : Int)
                                          · rw [if_pos c56] at H
                                            have c56b0 : decide ((ji54) < (x5_2.length : Int)) = true := decide_eq_true c56
                                            clear c56
                                            obtain ⟨ji57, hji57⟩ : ∃ j_ : Int, (mn (wrap64 ((rd x5_2 (ji51)) + 1)) (wrap64 ((rd x5_2 (ji54)) + 1))) = j_ := ⟨_, rfl⟩
                                            replace H : (if 0 ≤ (wrap64 ((wrap64 (x7_1 * (wrap64 ((a1.size : Int) + 1)))) + x8_2)) then (if (wrap64 ((wrap64 (x7_1 * (wrap64 ((a1.size : Int) + 1)))) + x8_2)) < (x5_2.length : Int) then (drachmref16_Distance.l1 k2 a0 a1 (x5_2.set ((wrap64 ((wrap64 (x7_1 * (wrap64 ((a1.size : Int) + 1)))) + x8_2)) : Int).toNat (mn (wrap64 ((rd x5_2 (ji23)) + 1)) (ji57))) (wrap64 ((a1.size : Int) + 1)) x7_1 (wrap64 (x8_2 + 1))) else (none)) else (none)) = some r := by first | (rw [hji57] at H; exact H) | (simp only [hji57] at H ⊢; exact H)
                                            have hji57_ : (if (wrap64 ((rd x5_2 (ji54)) + 1)) < (wrap64 ((rd x5_2 (ji51)) + 1)) then (wrap64 ((rd x5_2 (ji54)) + 1)) else (wrap64 ((rd x5_2 (ji51)) + 1))) = ji57 := hji57
                                            obtain ⟨ji58, hji58⟩ : ∃ j_ : Int, (mn (wrap64 ((rd x5_2 (ji23)) + 1)) (ji57)) = j_ := ⟨_, rfl⟩
                                            replace H : (if 0 ≤ (wrap64 ((wrap64 (x7_1 * (wrap64 ((a1.size : Int) + 1)))) + x8_2)) then (if (wrap64 ((wrap64 (x7_1 * (wrap64 ((a1.size : Int) + 1)))) + x8_2)) < (x5_2.length : Int) then (drachmref16_Distance.l1 k2 a0 a1 (x5_2.set ((wrap64 ((wrap64 (x7_1 * (wrap64 ((a1.size : Int) + 1)))) + x8_2)) : Int).toNat (ji58)) (wrap64 ((a1.size : Int) + 1)) x7_1 (wrap64 (x8_2 + 1))) else (none)) else (none)) = some r := by first | (rw [hji58] at H; exact H) | (simp only [hji58] at H ⊢; exact H)
                                            have hji58_ : (if (ji57) < (wrap64 ((rd x5_2 (ji23)) + 1)) then (ji57) else (wrap64 ((rd x5_2 (ji23)) + 1))) = ji58 := hji58
                                            obtain ⟨ji59, hji59⟩ : ∃ j_ : Int, (wrap64 ((wrap64 (x7_1 * (wrap64 ((a1.size : Int) + 1)))) + x8_2)) = j_ := ⟨_, rfl⟩
                                            replace H : (if 0 ≤ (ji59) then (if (ji59) < (x5_2.length : Int) then (drachmref16_Distance.l1 k2 a0 a1 (x5_2.set ((ji59) : Int).toNat (ji58)) (wrap64 ((a1.size : Int) + 1)) x7_1 (wrap64 (x8_2 + 1))) else (none)) else (none)) = some r := by first | (rw [hji59] at H; exact H) | (simp only [hji59] at H ⊢; exact H)
                                            have hji59w : (IntKind.i64.wrap ((wrap64 (x7_1 * (wrap64 ((a1.size : Int) + 1)))) + x8_2)) = ji59 := (i64_w _).trans hji59
                                            (try (have hji54_ji59 := hji54; simp only [hji57, hji58, hji59] at hji54_ji59))
                                            (try (have hji54w_ji59 := hji54w; simp only [hji57, hji58, hji59] at hji54w_ji59))
                                            by_cases c60 : 0 ≤ (ji59)
                                            · rw [if_pos c60] at H
                                              have c60b0 : decide (0 ≤ (ji59)) = true := decide_eq_true c60
                                              clear c60
                                              by_cases c61 : (ji59) < (x5_2.length : Int)
                                              · rw [if_pos c61] at H
                                                have c61b0 : decide ((ji59) < (x5_2.length : Int)) = true := decide_eq_true c61
                                                clear c61
                                                obtain ⟨y138, hy138⟩ : ∃ y_ : List Int, y_ = (x5_2.set ((ji59) : Int).toNat (ji58)) := ⟨_, rfl⟩
                                                replace H : (drachmref16_Distance.l1 k2 a0 a1 y138 (wrap64 ((a1.size : Int) + 1)) x7_1 (wrap64 (x8_2 + 1))) = some r := by first | (rw [hy138]; with_reducible exact H) | (have H2_ := (Option.bind_some _ _).symm.trans H; rw [hy138]; with_reducible exact H2_) | (have H2_ := (Option.bind_some _ _).symm.trans H; with_reducible exact H2_) | with_reducible exact H | (rw [hy138]; exact H) | exact H
                                                have Ny138 := Aside0.mk hy138
                                                clear hy138
                                                have H' := Aside0.mk H
                                                clear H
                                                obtain ⟨Ao63, co63, eo63⟩ := Kd.R_slice HO_5.out
                                                subst eo63
                                                have p132 : 0 ≤ ((ji23) : Int) := of_decide_eq_true (by first | (with_reducible assumption) | assumption)
                                                have q132 : (ji23) < (x5_2.length : Int) := of_decide_eq_true (by first | (with_reducible assumption) | assumption)
                                                obtain ⟨ad132, e132, hx132_0⟩ := Kd.at_int (Kd.R_reads' HO_5.out).2.2 (ji23) p132 q132
                                                cases e132
                                                replace p132 := eq_true p132
                                                replace q132 := eq_true q132
                                                try go_wp2
                                                have n0_ := Aside0.mk (Kd.R_drew HO_5.out)
                                                have n1_ := Aside0.mk (below_drew1 HB.out)
                                                clear HO_5
                                                clear HB
                                                have HO_5 := n0_
                                                have HB := n1_
                                                clear n0_ n1_
                                                have p29 : 0 ≤ ((ji26) : Int) := of_decide_eq_true (by first | (with_reducible assumption) | assumption)
                                                have q29 : (ji26) < (a0.size : Int) := of_decide_eq_true (by first | (with_reducible assumption) | assumption)
                                                have hx29 := bt_at a0 (ji26)
                                                replace p29 := eq_true p29
                                                replace q29 := eq_true q29
                                                have p33 : 0 ≤ ((ji30) : Int) := of_decide_eq_true (by first | (with_reducible assumption) | assumption)
                                                have q33 : (ji30) < (a1.size : Int) := of_decide_eq_true (by first | (with_reducible assumption) | assumption)
                                                have hx33 := bt_at a1 (ji30)
                                                replace p33 := eq_true p33
                                                replace q33 := eq_true q33
                                                refine start_ (n := 9) (S := fun w' => True) (ds := []) #[false, false, false, false, false, false, false, false, false] (by kernel_rfl) rfl rfl trivial (fun hHeld => ?_); refine with_tabW drachmref16_Distance.tab14 drachmref16_Distance.bits14 (fun HT_ HW_ => ?_)
                                                generalize wr.drew = w64 at HO_5 HB hHeld ⊢
                                                refine pure_ (i := 0) (N := some 57) (v := ?_) (a' := ?_) #[true, false, false, false, false, false, false, false, false] rfl rfl (any_of HT_.out (by kernel_rfl)) (fun _ _ _ h => h) (Or.inl ⟨by rfl, ?_⟩) ?_ ?_
                                                rotate_left
                                                · intro w'
                                                  go_simp
                                                  with_reducible rfl
                                                rotate_left
                                                · simp only [Act.put, List.setIfInBounds_toArray, List.set_cons_zero, List.set_cons_succ, i64_w, i32_w]
                                                  rfl
                                                refine pure_ (i := 1) (N := some 58) (v := ?_) (a' := ?_) #[true, true, false, false, false, false, false, false, false] rfl rfl (any_of HT_.out (by kernel_rfl)) (fun _ _ _ h => h) (Or.inl ⟨by rfl, ?_⟩) ?_ ?_
                                                rotate_left
                                                · intro w'
                                                  go_simp
                                                  with_reducible rfl
                                                rotate_left
                                                · simp only [Act.put, List.setIfInBounds_toArray, List.set_cons_zero, List.set_cons_succ, i64_w, i32_w]
                                                  rfl
                                                refine pure_ (i := 2) (N := some 59) (v := ?_) (a' := ?_) #[true, true, true, false, false, false, false, false, false] rfl rfl (any_of HT_.out (by kernel_rfl)) (fun _ _ _ h => h) (Or.inl ⟨by rfl, ?_⟩) ?_ ?_
                                                rotate_left
                                                · intro w'
                                                  go_simp
                                                  with_reducible rfl
                                                rotate_left
                                                · simp only [Act.put, List.setIfInBounds_toArray, List.set_cons_zero, List.set_cons_succ, i64_w, i32_w]
                                                  rfl
                                                refine pure_ (i := 4) (N := some 61) (v := ?_) (a' := ?_) #[true, true, true, false, true, false, false, false, false] rfl rfl (any_of HT_.out (by kernel_rfl)) (fun _ _ _ h => h) (Or.inl ⟨by rfl, ?_⟩) ?_ ?_
                                                rotate_left
                                                · intro w'
                                                  go_simp
                                                  with_reducible rfl
                                                rotate_left
                                                · simp only [Act.put, List.setIfInBounds_toArray, List.set_cons_zero, List.set_cons_succ, i64_w, i32_w]
                                                  rfl
                                                refine pure_ (i := 5) (N := some 62) (v := ?_) (a' := ?_) #[true, true, true, false, true, true, false, false, false] rfl rfl (any_of HT_.out (by kernel_rfl)) (fun _ _ _ h => h) (Or.inl ⟨by rfl, ?_⟩) ?_ ?_
                                                rotate_left
                                                · intro w'
                                                  go_simp
                                                  with_reducible rfl
                                                rotate_left
                                                · simp only [Act.put, List.setIfInBounds_toArray, List.set_cons_zero, List.set_cons_succ, i64_w, i32_w]
                                                  rfl
                                                refine pure_ (i := 6) (N := some 63) (v := ?_) (a' := ?_) #[true, true, true, false, true, true, true, false, false] rfl rfl (any_of HT_.out (by kernel_rfl)) (fun _ _ _ h => h) (Or.inl ⟨by rfl, ?_⟩) ?_ ?_
                                                rotate_left
                                                · intro w'
                                                  go_simp
                                                  with_reducible rfl
                                                rotate_left
                                                · simp only [Act.put, List.setIfInBounds_toArray, List.set_cons_zero, List.set_cons_succ, i64_w, i32_w]
                                                  rfl
                                                refine take_ (i := 3) (N := some 60) (v := ?_) (a' := ?_) #[true, true, true, true, true, true, true, false, false] rfl rfl (take_ofW HT_.out HW_.out (by kernel_rfl)) (fun _ _ _ h => h) (Or.inl ⟨by rfl, ?_⟩) hHeld ?_ ?_
                                                rotate_left
                                                · intro w' _
                                                  go_simp
                                                  with_reducible rfl
                                                rotate_left
                                                · simp only [Act.put, List.setIfInBounds_toArray, List.set_cons_zero, List.set_cons_succ, i64_w, i32_w]
                                                  rfl
                                                refine take_ (i := 7) (N := some 64) (v := ?_) (a' := ?_) #[true, true, true, true, true, true, true, true, false] rfl rfl (take_ofW HT_.out HW_.out (by kernel_rfl)) (fun _ _ _ h => h) (Or.inl ⟨by rfl, ?_⟩) hHeld ?_ ?_
                                                rotate_left
                                                · intro w' _
                                                  go_simp
                                                  with_reducible rfl
                                                rotate_left
                                                · simp only [Act.put, List.setIfInBounds_toArray, List.set_cons_zero, List.set_cons_succ, i64_w, i32_w]
                                                  rfl
                                                refine pure_ (i := 8) (N := some 65) (v := ?_) (a' := ?_) #[true, true, true, true, true, true, true, true, true] rfl rfl (any_of HT_.out (by kernel_rfl)) (fun _ _ _ h => h) (Or.inl ⟨by rfl, ?_⟩) ?_ ?_
                                                rotate_left
                                                · intro w'
                                                  go_simp
                                                  with_reducible rfl
                                                rotate_left
                                                · simp only [Act.put, List.setIfInBounds_toArray, List.set_cons_zero, List.set_cons_succ, i64_w, i32_w]
                                                  rfl
                                                refine done_ (done_of HT_.out (by kernel_rfl)) ?_
                                                try go_wp2
                                                have n0_ := Aside0.mk (Kd.R_drew HO_5.out)
                                                have n1_ := Aside0.mk (below_drew1 HB.out)
                                                clear HO_5
                                                clear HB
                                                have HO_5 := n0_
                                                have HB := n1_
                                                clear n0_ n1_
                                                have p136 : 0 ≤ ((ji51) : Int) := of_decide_eq_true (by first | (with_reducible assumption) | assumption)
                                                have q136 : (ji51) < (x5_2.length : Int) := of_decide_eq_true (by first | (with_reducible assumption) | assumption)
                                                obtain ⟨ad136, e136, hx136_0⟩ := Kd.at_int (Kd.R_reads' HO_5.out).2.2 (ji51) p136 q136
                                                obtain rfl : ad132 = ad136 := (by injection e136)
                                                replace p136 := eq_true p136
                                                replace q136 := eq_true q136
                                                have p137 : 0 ≤ ((ji54) : Int) := of_decide_eq_true (by first | (with_reducible assumption) | assumption)
                                                have q137 : (ji54) < (x5_2.length : Int) := of_decide_eq_true (by first | (with_reducible assumption) | assumption)
                                                obtain ⟨ad137, e137, hx137_0⟩ := Kd.at_int (Kd.R_reads' HO_5.out).2.2 (ji54) p137 q137
                                                obtain rfl : ad132 = ad137 := (by injection e137)
                                                replace p137 := eq_true p137
                                                replace q137 := eq_true q137
                                                have p62 : 0 ≤ ((ji59) : Int) := of_decide_eq_true (by first | (with_reducible assumption) | assumption)
                                                have q62 : ((ji59) : Int) < ((x5_2.length : Int) : Int) := of_decide_eq_true (by first | (with_reducible assumption) | assumption)
                                                obtain ⟨go62, co62, eo62, gb62, gl62, cl62, HG62⟩ := Kd.R_form HO_5.out (by omega)
                                                (first | cases eo62 | (injection eo62 with ea_ en_ ec_; (first | subst ea_ | (injection ea_ with ea_; subst ea_)); subst ec_; clear en_))
                                                have GB62 := Aside0.mk gb62
                                                have GG62 := Aside0.mk HG62
                                                clear gb62 gl62 HG62
                                                (first | simp only [add_plain] at hx132_0 | skip)
                                                (first | simp only [add_plain] at hx136_0 | skip)
                                                (first | simp only [add_plain] at hx137_0 | skip)
                                                obtain ⟨hx62_0, hf62_0⟩ := Kd.R_celln 0 HO_5.out ((ji59) : Int) p62 q62
                                                replace p62 := eq_true p62
                                                replace q62 := eq_true q62
                                                have HP66 := Kd.R_putn HO_5.out ((ji59) : Int) ji58
                                                rw [← Ny138.out] at HP66
                                                have HQ66 := Aside0.mk HP66
                                                clear HP66
                                                refine start_ (n := 31) (S := fun w' => w'.cell? ⟨go62, ((ji51)).toNat, none⟩ = some (.int .i64 (rd x5_2 (ji51))) ∧ w'.cell? ⟨go62, ((ji54)).toNat, none⟩ = some (.int .i64 (rd x5_2 (ji54)))) (ds := [30]) #[false, false, false, false, false, false, false, false, false, false, false, false, false, false, false, false, false, false, false, false, false, false, false, false, false, false, false, false, false, false, false] (by kernel_rfl) rfl rfl ⟨hx136_0, hx137_0⟩ (fun hHeld => ?_); refine with_tabW drachmref16_Distance.tab16 drachmref16_Distance.bits16 (fun HT_ HW_ => ?_)
                                                generalize w64.drew = w65 at HO_5 HB GG62 HQ66 hf62_0 hx132_0 hx136_0 hx137_0 hx62_0 hHeld ⊢
                                                refine pure_ (i := 0) (N := some 68) (v := ?_) (a' := ?_) #[true, false, false, false, false, false, false, false, false, false, false, false, false, false, false, false, false, false, false, false, false, false, false, false, false, false, false, false, false, false, false] rfl rfl (any_of HT_.out (by kernel_rfl)) (fun _ _ _ h => h) (Or.inl ⟨by rfl, ?_⟩) ?_ ?_
                                                rotate_left
                                                · intro w'
                                                  go_simp
                                                  with_reducible rfl
                                                rotate_left
                                                · simp only [Act.put, List.setIfInBounds_toArray, List.set_cons_zero, List.set_cons_succ, i64_w, i32_w]
                                                  rfl
                                                refine pure_ (i := 1) (N := some 69) (v := ?_) (a' := ?_) #[true, true, false, false, false, false, false, false, false, false, false, false, false, false, false, false, false, false, false, false, false, false, false, false, false, false, false, false, false, false, false] rfl rfl (any_of HT_.out (by kernel_rfl)) (fun _ _ _ h => h) (Or.inl ⟨by rfl, ?_⟩) ?_ ?_
                                                rotate_left
                                                · intro w'
                                                  go_simp
                                                  with_reducible rfl
                                                rotate_left
                                                · simp only [Act.put, List.setIfInBounds_toArray, List.set_cons_zero, List.set_cons_succ, i64_w, i32_w]
                                                  rfl
                                                refine pure_ (i := 2) (N := some 70) (v := ?_) (a' := ?_) #[true, true, true, false, false, false, false, false, false, false, false, false, false, false, false, false, false, false, false, false, false, false, false, false, false, false, false, false, false, false, false] rfl rfl (any_of HT_.out (by kernel_rfl)) (fun _ _ _ h => h) (Or.inl ⟨by rfl, ?_⟩) ?_ ?_
                                                rotate_left
                                                · intro w'
                                                  go_simp
                                                  with_reducible rfl
                                                rotate_left
                                                · simp only [Act.put, List.setIfInBounds_toArray, List.set_cons_zero, List.set_cons_succ, i64_w, i32_w]
                                                  rfl
                                                refine pure_ (i := 3) (N := some 71) (v := ?_) (a' := ?_) #[true, true, true, true, false, false, false, false, false, false, false, false, false, false, false, false, false, false, false, false, false, false, false, false, false, false, false, false, false, false, false] rfl rfl (any_of HT_.out (by kernel_rfl)) (fun _ _ _ h => h) (Or.inl ⟨by rfl, ?_⟩) ?_ ?_
                                                rotate_left
                                                · intro w'
                                                  go_simp
                                                  with_reducible rfl
                                                rotate_left
                                                · simp only [Act.put, List.setIfInBounds_toArray, List.set_cons_zero, List.set_cons_succ, i64_w, i32_w]
                                                  rfl
                                                refine pure_ (i := 4) (N := some 72) (v := ?_) (a' := ?_) #[true, true, true, true, true, false, false, false, false, false, false, false, false, false, false, false, false, false, false, false, false, false, false, false, false, false, false, false, false, false, false] rfl rfl (any_of HT_.out (by kernel_rfl)) (fun _ _ _ h => h) (Or.inl ⟨by rfl, ?_⟩) ?_ ?_
                                                rotate_left
                                                · intro w'
                                                  go_simp
                                                  with_reducible rfl
                                                rotate_left
                                                · simp only [Act.put, List.setIfInBounds_toArray, List.set_cons_zero, List.set_cons_succ, i64_w, i32_w]
                                                  rfl
                                                refine pure_ (i := 5) (N := some 73) (v := ?_) (a' := ?_) #[true, true, true, true, true, true, false, false, false, false, false, false, false, false, false, false, false, false, false, false, false, false, false, false, false, false, false, false, false, false, false] rfl rfl (any_of HT_.out (by kernel_rfl)) (fun _ _ _ h => h) (Or.inl ⟨by rfl, ?_⟩) ?_ ?_
                                                rotate_left
                                                · intro w'
                                                  go_simp
                                                  with_reducible rfl
                                                rotate_left
                                                · simp only [Act.put, List.setIfInBounds_toArray, List.set_cons_zero, List.set_cons_succ, i64_w, i32_w]
                                                  rfl
                                                refine pure_ (i := 6) (N := some 74) (v := ?_) (a' := ?_) #[true, true, true, true, true, true, true, false, false, false, false, false, false, false, false, false, false, false, false, false, false, false, false, false, false, false, false, false, false, false, false] rfl rfl (any_of HT_.out (by kernel_rfl)) (fun _ _ _ h => h) (Or.inl ⟨by rfl, ?_⟩) ?_ ?_
                                                rotate_left
                                                · intro w'
                                                  go_simp
                                                  with_reducible rfl
                                                rotate_left
                                                · simp only [Act.put, List.setIfInBounds_toArray, List.set_cons_zero, List.set_cons_succ, i64_w, i32_w]
                                                  rfl
                                                refine pure_ (i := 7) (N := some 75) (v := ?_) (a' := ?_) #[true, true, true, true, true, true, true, true, false, false, false, false, false, false, false, false, false, false, false, false, false, false, false, false, false, false, false, false, false, false, false] rfl rfl (any_of HT_.out (by kernel_rfl)) (fun _ _ _ h => h) (Or.inl ⟨by rfl, ?_⟩) ?_ ?_
                                                rotate_left
                                                · intro w'
                                                  go_simp
                                                  with_reducible rfl
                                                rotate_left
                                                · simp only [Act.put, List.setIfInBounds_toArray, List.set_cons_zero, List.set_cons_succ, i64_w, i32_w]
                                                  rfl
                                                refine pure_ (i := 8) (N := some 76) (v := ?_) (a' := ?_) #[true, true, true, true, true, true, true, true, true, false, false, false, false, false, false, false, false, false, false, false, false, false, false, false, false, false, false, false, false, false, false] rfl rfl (any_of HT_.out (by kernel_rfl)) (fun _ _ _ h => h) (Or.inl ⟨by rfl, ?_⟩) ?_ ?_
                                                rotate_left
                                                · intro w'
                                                  go_simp
                                                  with_reducible rfl
                                                rotate_left
                                                · simp only [Act.put, List.setIfInBounds_toArray, List.set_cons_zero, List.set_cons_succ, i64_w, i32_w]
                                                  rfl
                                                refine pure_ (i := 9) (N := some 77) (v := ?_) (a' := ?_) #[true, true, true, true, true, true, true, true, true, true, false, false, false, false, false, false, false, false, false, false, false, false, false, false, false, false, false, false, false, false, false] rfl rfl (any_of HT_.out (by kernel_rfl)) (fun _ _ _ h => h) (Or.inl ⟨by rfl, ?_⟩) ?_ ?_
                                                rotate_left
                                                · intro w'
                                                  go_simp
                                                  with_reducible rfl
                                                rotate_left
                                                · simp only [Act.put, List.setIfInBounds_toArray, List.set_cons_zero, List.set_cons_succ, i64_w, i32_w]
                                                  rfl
                                                refine pure_ (i := 10) (N := some 78) (v := ?_) (a' := ?_) #[true, true, true, true, true, true, true, true, true, true, true, false, false, false, false, false, false, false, false, false, false, false, false, false, false, false, false, false, false, false, false] rfl rfl (any_of HT_.out (by kernel_rfl)) (fun _ _ _ h => h) (Or.inl ⟨by rfl, ?_⟩) ?_ ?_
                                                rotate_left
                                                · intro w'
                                                  go_simp
                                                  with_reducible rfl
                                                rotate_left
                                                · simp only [Act.put, List.setIfInBounds_toArray, List.set_cons_zero, List.set_cons_succ, i64_w, i32_w]
                                                  rfl
                                                refine pure_ (i := 11) (N := some 79) (v := ?_) (a' := ?_) #[true, true, true, true, true, true, true, true, true, true, true, true, false, false, false, false, false, false, false, false, false, false, false, false, false, false, false, false, false, false, false] rfl rfl (any_of HT_.out (by kernel_rfl)) (fun _ _ _ h => h) (Or.inl ⟨by rfl, ?_⟩) ?_ ?_
                                                rotate_left
                                                · intro w'
                                                  go_simp
                                                  with_reducible rfl
                                                rotate_left
                                                · simp only [Act.put, List.setIfInBounds_toArray, List.set_cons_zero, List.set_cons_succ, i64_w, i32_w]
                                                  rfl
                                                refine pure_ (i := 12) (N := some 80) (v := ?_) (a' := ?_) #[true, true, true, true, true, true, true, true, true, true, true, true, true, false, false, false, false, false, false, false, false, false, false, false, false, false, false, false, false, false, false] rfl rfl (any_of HT_.out (by kernel_rfl)) (fun _ _ _ h => h) (Or.inl ⟨by rfl, ?_⟩) ?_ ?_
                                                rotate_left
                                                · intro w'
                                                  go_simp
                                                  with_reducible rfl
                                                rotate_left
                                                · simp only [Act.put, List.setIfInBounds_toArray, List.set_cons_zero, List.set_cons_succ, i64_w, i32_w]
                                                  rfl
                                                refine pure_ (i := 13) (N := some 81) (v := ?_) (a' := ?_) #[true, true, true, true, true, true, true, true, true, true, true, true, true, true, false, false, false, false, false, false, false, false, false, false, false, false, false, false, false, false, false] rfl rfl (any_of HT_.out (by kernel_rfl)) (fun _ _ _ h => h) (Or.inl ⟨by rfl, ?_⟩) ?_ ?_
                                                rotate_left
                                                · intro w'
                                                  go_simp
                                                  with_reducible rfl
                                                rotate_left
                                                · simp only [Act.put, List.setIfInBounds_toArray, List.set_cons_zero, List.set_cons_succ, i64_w, i32_w]
                                                  rfl
                                                refine pure_ (i := 14) (N := some 82) (v := ?_) (a' := ?_) #[true, true, true, true, true, true, true, true, true, true, true, true, true, true, true, false, false, false, false, false, false, false, false, false, false, false, false, false, false, false, false] rfl rfl (any_of HT_.out (by kernel_rfl)) (fun _ _ _ h => h) (Or.inl ⟨by rfl, ?_⟩) ?_ ?_
                                                rotate_left
                                                · intro w'
                                                  go_simp
                                                  with_reducible rfl
                                                rotate_left
                                                · simp only [Act.put, List.setIfInBounds_toArray, List.set_cons_zero, List.set_cons_succ, i64_w, i32_w]
                                                  rfl
                                                refine pure_ (i := 17) (N := some 85) (v := ?_) (a' := ?_) #[true, true, true, true, true, true, true, true, true, true, true, true, true, true, true, false, false, true, false, false, false, false, false, false, false, false, false, false, false, false, false] rfl rfl (any_of HT_.out (by kernel_rfl)) (fun _ _ _ h => h) (Or.inl ⟨by rfl, ?_⟩) ?_ ?_
                                                rotate_left
                                                · intro w'
                                                  go_simp
                                                  with_reducible rfl
                                                rotate_left
                                                · simp only [Act.put, List.setIfInBounds_toArray, List.set_cons_zero, List.set_cons_succ, i64_w, i32_w]
                                                  rfl
                                                refine pure_ (i := 18) (N := some 86) (v := ?_) (a' := ?_) #[true, true, true, true, true, true, true, true, true, true, true, true, true, true, true, false, false, true, true, false, false, false, false, false, false, false, false, false, false, false, false] rfl rfl (any_of HT_.out (by kernel_rfl)) (fun _ _ _ h => h) (Or.inl ⟨by rfl, ?_⟩) ?_ ?_
                                                rotate_left
                                                · intro w'
                                                  go_simp
                                                  with_reducible rfl
                                                rotate_left
                                                · simp only [Act.put, List.setIfInBounds_toArray, List.set_cons_zero, List.set_cons_succ, i64_w, i32_w]
                                                  rfl
                                                refine pure_ (i := 19) (N := some 87) (v := ?_) (a' := ?_) #[true, true, true, true, true, true, true, true, true, true, true, true, true, true, true, false, false, true, true, true, false, false, false, false, false, false, false, false, false, false, false] rfl rfl (any_of HT_.out (by kernel_rfl)) (fun _ _ _ h => h) (Or.inl ⟨by rfl, ?_⟩) ?_ ?_
                                                rotate_left
                                                · intro w'
                                                  go_simp
                                                  with_reducible rfl
                                                rotate_left
                                                · simp only [Act.put, List.setIfInBounds_toArray, List.set_cons_zero, List.set_cons_succ, i64_w, i32_w]
                                                  rfl
                                                refine pure_ (i := 20) (N := some 88) (v := ?_) (a' := ?_) #[true, true, true, true, true, true, true, true, true, true, true, true, true, true, true, false, false, true, true, true, true, false, false, false, false, false, false, false, false, false, false] rfl rfl (any_of HT_.out (by kernel_rfl)) (fun _ _ _ h => h) (Or.inl ⟨by rfl, ?_⟩) ?_ ?_
                                                rotate_left
                                                · intro w'
                                                  go_simp
                                                  with_reducible rfl
                                                rotate_left
                                                · simp only [Act.put, List.setIfInBounds_toArray, List.set_cons_zero, List.set_cons_succ, i64_w, i32_w]
                                                  rfl
                                                refine pure_ (i := 21) (N := some 89) (v := ?_) (a' := ?_) #[true, true, true, true, true, true, true, true, true, true, true, true, true, true, true, false, false, true, true, true, true, true, false, false, false, false, false, false, false, false, false] rfl rfl (any_of HT_.out (by kernel_rfl)) (fun _ _ _ h => h) (Or.inl ⟨by rfl, ?_⟩) ?_ ?_
                                                rotate_left
                                                · intro w'
                                                  go_simp
                                                  with_reducible rfl
                                                rotate_left
                                                · simp only [Act.put, List.setIfInBounds_toArray, List.set_cons_zero, List.set_cons_succ, i64_w, i32_w]
                                                  rfl
                                                refine pure_ (i := 22) (N := some 90) (v := ?_) (a' := ?_) #[true, true, true, true, true, true, true, true, true, true, true, true, true, true, true, false, false, true, true, true, true, true, true, false, false, false, false, false, false, false, false] rfl rfl (any_of HT_.out (by kernel_rfl)) (fun _ _ _ h => h) (Or.inl ⟨by rfl, ?_⟩) ?_ ?_
                                                rotate_left
                                                · intro w'
                                                  go_simp
                                                  with_reducible rfl
                                                rotate_left
                                                · simp only [Act.put, List.setIfInBounds_toArray, List.set_cons_zero, List.set_cons_succ, i64_w, i32_w]
                                                  rfl
                                                refine pure_ (i := 23) (N := some 91) (v := ?_) (a' := ?_) #[true, true, true, true, true, true, true, true, true, true, true, true, true, true, true, false, false, true, true, true, true, true, true, true, false, false, false, false, false, false, false] rfl rfl (any_of HT_.out (by kernel_rfl)) (fun _ _ _ h => h) (Or.inl ⟨by rfl, ?_⟩) ?_ ?_
                                                rotate_left
                                                · intro w'
                                                  go_simp
                                                  with_reducible rfl
                                                rotate_left
                                                · simp only [Act.put, List.setIfInBounds_toArray, List.set_cons_zero, List.set_cons_succ, i64_w, i32_w]
                                                  rfl
                                                refine pure_ (i := 24) (N := some 92) (v := ?_) (a' := ?_) #[true, true, true, true, true, true, true, true, true, true, true, true, true, true, true, false, false, true, true, true, true, true, true, true, true, false, false, false, false, false, false] rfl rfl (any_of HT_.out (by kernel_rfl)) (fun _ _ _ h => h) (Or.inl ⟨by rfl, ?_⟩) ?_ ?_
                                                rotate_left
                                                · intro w'
                                                  go_simp
                                                  with_reducible rfl
                                                rotate_left
                                                · simp only [Act.put, List.setIfInBounds_toArray, List.set_cons_zero, List.set_cons_succ, i64_w, i32_w]
                                                  rfl
                                                refine take_ (i := 15) (N := some 83) (v := ?_) (a' := ?_) #[true, true, true, true, true, true, true, true, true, true, true, true, true, true, true, true, false, true, true, true, true, true, true, true, true, false, false, false, false, false, false] rfl rfl (take_ofW HT_.out HW_.out (by kernel_rfl)) (fun _ _ _ h => h) (Or.inl ⟨by rfl, ?_⟩) hHeld ?_ ?_
                                                rotate_left
                                                · rintro w' ⟨s0, s1⟩
                                                  go_simp
                                                  with_reducible rfl
                                                rotate_left
                                                · simp only [Act.put, List.setIfInBounds_toArray, List.set_cons_zero, List.set_cons_succ, i64_w, i32_w]
                                                  rfl
                                                refine pure_ (i := 16) (N := some 84) (v := ?_) (a' := ?_) #[true, true, true, true, true, true, true, true, true, true, true, true, true, true, true, true, true, true, true, true, true, true, true, true, true, false, false, false, false, false, false] rfl rfl (any_of HT_.out (by kernel_rfl)) (fun _ _ _ h => h) (Or.inl ⟨by rfl, ?_⟩) ?_ ?_
                                                rotate_left
                                                · intro w'
                                                  go_simp
                                                  with_reducible rfl
                                                rotate_left
                                                · simp only [Act.put, List.setIfInBounds_toArray, List.set_cons_zero, List.set_cons_succ, i64_w, i32_w]
                                                  rfl
                                                refine take_ (i := 25) (N := some 93) (v := ?_) (a' := ?_) #[true, true, true, true, true, true, true, true, true, true, true, true, true, true, true, true, true, true, true, true, true, true, true, true, true, true, false, false, false, false, false] rfl rfl (take_ofW HT_.out HW_.out (by kernel_rfl)) (fun _ _ _ h => h) (Or.inl ⟨by rfl, ?_⟩) hHeld ?_ ?_
                                                rotate_left
                                                · rintro w' ⟨s0, s1⟩
                                                  go_simp
                                                  with_reducible rfl
                                                rotate_left
                                                · simp only [Act.put, List.setIfInBounds_toArray, List.set_cons_zero, List.set_cons_succ, i64_w, i32_w]
                                                  rfl
                                                refine pure_ (i := 26) (N := some 94) (v := ?_) (a' := ?_) #[true, true, true, true, true, true, true, true, true, true, true, true, true, true, true, true, true, true, true, true, true, true, true, true, true, true, true, false, false, false, false] rfl rfl (any_of HT_.out (by kernel_rfl)) (fun _ _ _ h => h) (Or.inl ⟨by rfl, ?_⟩) ?_ ?_
                                                rotate_left
                                                · intro w'
                                                  go_simp
                                                  with_reducible rfl
                                                rotate_left
                                                · simp only [Act.put, List.setIfInBounds_toArray, List.set_cons_zero, List.set_cons_succ, i64_w, i32_w]
                                                  rfl
                                                refine pure_ (i := 27) (N := some 95) (v := ?_) (a' := ?_) #[true, true, true, true, true, true, true, true, true, true, true, true, true, true, true, true, true, true, true, true, true, true, true, true, true, true, true, true, false, false, false] rfl rfl (any_of HT_.out (by kernel_rfl)) (fun _ _ _ h => h) (Or.inl ⟨by rfl, ?_⟩) ?_ ?_
                                                rotate_left
                                                · intro w'
                                                  go_simp
                                                  with_reducible rfl
                                                rotate_left
                                                · simp only [Act.put, List.setIfInBounds_toArray, List.set_cons_zero, List.set_cons_succ, i64_w, i32_w]
                                                  rfl
                                                refine pure_ (i := 28) (N := some 96) (v := ?_) (a' := ?_) #[true, true, true, true, true, true, true, true, true, true, true, true, true, true, true, true, true, true, true, true, true, true, true, true, true, true, true, true, true, false, false] rfl rfl (any_of HT_.out (by kernel_rfl)) (fun _ _ _ h => h) (Or.inl ⟨by rfl, ?_⟩) ?_ ?_
                                                rotate_left
                                                · intro w'
                                                  go_simp
                                                  with_reducible rfl
                                                rotate_left
                                                · simp only [Act.put, List.setIfInBounds_toArray, List.set_cons_zero, List.set_cons_succ, i64_w, i32_w]
                                                  rfl
                                                refine pure_ (i := 29) (N := some 97) (v := ?_) (a' := ?_) #[true, true, true, true, true, true, true, true, true, true, true, true, true, true, true, true, true, true, true, true, true, true, true, true, true, true, true, true, true, true, false] rfl rfl (any_of HT_.out (by kernel_rfl)) (fun _ _ _ h => h) (Or.inl ⟨by rfl, ?_⟩) ?_ ?_
                                                rotate_left
                                                · intro w'
                                                  go_simp
                                                  with_reducible rfl
                                                rotate_left
                                                · simp only [Act.put, List.setIfInBounds_toArray, List.set_cons_zero, List.set_cons_succ, i64_w, i32_w]
                                                  rfl
                                                refine last_ (i := 30) (N := none) #[true, true, true, true, true, true, true, true, true, true, true, true, true, true, true, true, true, true, true, true, true, true, true, true, true, true, true, true, true, true, true] rfl rfl (one_of HT_.out (by kernel_rfl)) (by decide) (fun K hK => ?_)
                                                refine skip_ (w1 := ?_) (by rfl) rfl ?_ ?_
                                                rotate_left
                                                · go_simp
                                                  rfl
                                                refine hK.out _ _ ?_
                                                clear hK K
                                                refine done_ (done_of HT_.out (by kernel_rfl)) ?_
                                                try go_wp2
                                                go_roundg k2
                                                case measure => have := HK1.out; have := HK2.out; omega
                                                case rel => exact ⟨(y138), (wrap64 (x8_2 + 1)), (by first | rfl | (simp; done) | (simp [*]; done)), H', ⟨by have := HK1.out; have := HK2.out; omega⟩, ⟨by (with_reducible repeat (first | apply Kd.R_alloc | apply Kd.R_drewN | apply Kd.R_drew)); exact HQ66.out⟩, ⟨by repeat (first | (with_reducible first | exact HB.out | apply below_alloc | apply pw_below_drewN | apply below_drew1 | refine below_set ?_ GB62.out) | exact HB.out)⟩⟩
                                              · rw [if_neg c61] at H
                                                exact absurd H (by simp)
                                            · rw [if_neg c60] at H
                                              exact absurd H (by simp)
                                          · rw [if_neg c56] at H
                                            exact absurd H (by simp)
                                        · rw [if_neg c55] at H
                                          exact absurd H (by simp)
                                      · rw [if_neg c53] at H
                                        exact absurd H (by simp)
                                    · rw [if_neg c52] at H
                                      exact absurd H (by simp)
                                · rw [if_neg c32] at H
                                  exact absurd H (by simp)
                              · rw [if_neg c31] at H
                                exact absurd H (by simp)
                            · rw [if_neg c28] at H
                              exact absurd H (by simp)
                          · rw [if_neg c27] at H
                            exact absurd H (by simp)
                        · rw [if_neg c25] at H
                          exact absurd H (by simp)
                      · rw [if_neg c24] at H
                        exact absurd H (by simp)
                · rw [if_neg c9] at H
                  have c9b0 : decide (x8_2 ≤ (a1.size : Int)) = false := decide_eq_false c9
                  clear c9
                  have H' := Aside0.mk H
                  clear H
                  go_wp2
                  go_roundg k2
                  case measure => have := HK1.out; have := HK2.out; omega
                  case rel => exact ⟨(x5_2), (wrap64 (x7_1 + 1)), (by first | rfl | (simp; done) | (simp [*]; done)), H', ⟨by have := HK1.out; have := HK2.out; omega⟩, ⟨by (with_reducible repeat (first | apply Kd.R_alloc | apply Kd.R_drewN | apply Kd.R_drew)); exact HO_5.out⟩, ⟨by repeat (first | (with_reducible first | exact HB.out | apply below_alloc | apply pw_below_drewN | apply below_drew1) | exact HB.out)⟩⟩
          · rw [if_neg c8] at H
            have c8b0 : decide (x7_1 ≤ (a0.size : Int)) = false := decide_eq_false c8
            clear c8
            obtain ⟨ji67, hji67⟩ : ∃ j_ : Int, (wrap64 ((wrap64 ((a0.size : Int) * (wrap64 ((a1.size : Int) + 1)))) + (a1.size : Int))) = j_ := ⟨_, rfl⟩
            replace H : (if 0 ≤ (ji67) then (if (ji67) < (x5_1.length : Int) then (some (rd x5_1 (ji67))) else (none)) else (none)) = some r := by first | (rw [hji67] at H; exact H) | (simp only [hji67] at H ⊢; exact H)
            have hji67w : (IntKind.i64.wrap ((wrap64 ((a0.size : Int) * (wrap64 ((a1.size : Int) + 1)))) + (a1.size : Int))) = ji67 := (i64_w _).trans hji67
            by_cases c68 : 0 ≤ (ji67)
            · rw [if_pos c68] at H
              have c68b0 : decide (0 ≤ (ji67)) = true := decide_eq_true c68
              clear c68
              by_cases c69 : (ji67) < (x5_1.length : Int)
              · rw [if_pos c69] at H
                have c69b0 : decide ((ji67) < (x5_1.length : Int)) = true := decide_eq_true c69
                clear c69
                obtain rfl := Option.some.inj H
                obtain ⟨Ao70, co70, eo70⟩ := Kd.R_slice HO_5.out
                subst eo70
                have p129 : 0 ≤ ((ji67) : Int) := of_decide_eq_true (by first | (with_reducible assumption) | assumption)
                have q129 : (ji67) < (x5_1.length : Int) := of_decide_eq_true (by first | (with_reducible assumption) | assumption)
                obtain ⟨ad129, e129, hx129_0⟩ := Kd.at_int (Kd.R_reads' HO_5.out).2.2 (ji67) p129 q129
                cases e129
                replace p129 := eq_true p129
                replace q129 := eq_true q129
                go_wp2
                go_ret
                exact ⟨by first | rfl | (simp [errW_none, errW_some] <;> rfl) | (simp only [← hji3, ← hji67]; first | rfl | (simp [errW_none, errW_some] <;> rfl)) | (simp [*, errW_none, errW_some] <;> rfl), by repeat (first | (with_reducible first | exact HB.out | apply below_alloc | apply pw_below_drewN | apply below_drew1) | exact HB.out)⟩
              · rw [if_neg c69] at H
                exact absurd H (by simp)
            · rw [if_neg c68] at H
              exact absurd H (by simp)
    · rw [if_neg c5] at H
      exact absurd H (by simp)
  · rw [if_neg c4] at H
    exact absurd H (by simp)

end Go.Proofs.Ytkogfbgeepgjgaa.PBase
