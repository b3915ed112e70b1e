/- Printed by a program of this session (wip/tools/prt.py) out of the translation: plain functions, and that the calls come to just them. No conditions beyond those that stand in each theorem. -/
import Derived.Test.YtbfajaeghiodnaaPWholeSplitsx0
namespace Go.Proofs.Ytbfajaeghiodnaa.PWholeSplits
open Go.RowKit Go.Proofs.YtbfajaeghiodnaaW.PrintWords Go.Proofs.YtbfajaeghiodnaaW.PrintLast Go.Proofs.YtbfajaeghiodnaaW.PrintMore Go.Proofs.Ytbfajaeghiodnaa.PBase
attribute [local go_sem] max2_int min2_int max_two min_two max_three min_three max_four min_four   -- for this text's walks alone
set_option linter.unusedVariables false
set_option linter.unusedSimpArgs false

/-! ### drachmlaw01_WholeSplits: function 7 -/
mutual
def drachmlaw01_WholeSplits.j0 : Nat → Int → Bool → Int → Int → Int → Bool → Option (Bool)
  | 0, _, _, _, _, _, _ => none
  | k + 1, x0, x5, x6, x7, x8, x30 => if x30 = true then (if x5 = true then (if x7 = 0 then (some (x8 == x0)) else (some false)) else (some false)) else (if x7 < 0 then (drachmlaw01_WholeSplits.j1 k x0 x5 x6 x7 x8 true) else (if x7 > 63 then (drachmlaw01_WholeSplits.j1 k x0 x5 x6 x7 x8 true) else (if x8 = 0 then (drachmlaw01_WholeSplits.j1 k x0 x5 x6 x7 x8 true) else (if x6 = 0 then (none) else (drachmlaw01_WholeSplits.j1 k x0 x5 x6 x7 x8 ((Int.tmod x8 x6) == 0))))))
def drachmlaw01_WholeSplits.j1 : Nat → Int → Bool → Int → Int → Int → Bool → Option (Bool)
  | 0, _, _, _, _, _, _ => none
  | k + 1, x0, x5, x6, x7, x8, x56 => if x56 = true then (some false) else (drachmlaw01_WholeSplits.l0 k x0 x5 x6 x7 x8 0)
def drachmlaw01_WholeSplits.l0 : Nat → Int → Bool → Int → Int → Int → Int → Option (Bool)
  | 0, _, _, _, _, _, _ => none
  | k + 1, x0, x5, x6, x7, x9, x10 => if x10 < x7 then ((whole_Mul.f k x9 x6).bind fun bt104 => (if bt104.2 = true then (drachmlaw01_WholeSplits.l0 k x0 x5 x6 x7 bt104.1 (wrap64 (x10 + 1))) else (some false))) else (if x5 = true then (some (x9 == x0)) else (some false))
end
def drachmlaw01_WholeSplits.f (k : Nat) (a0 : Int) (a1 : Int) : Option (Bool) := (drachmlaw01_awake.f k).bind fun t101 => ((whole_Split.f k a0 (wrap64 (2 + (Int.tmod (wrap64 ((Int.tmod a1 999) + 999)) 999)))).bind fun bt102 => (if a0 = 0 then (drachmlaw01_WholeSplits.j0 k a0 t101 (wrap64 (2 + (Int.tmod (wrap64 ((Int.tmod a1 999) + 999)) 999))) bt102.1 bt102.2 true) else (drachmlaw01_WholeSplits.j0 k a0 t101 (wrap64 (2 + (Int.tmod (wrap64 ((Int.tmod a1 999) + 999)) 999))) bt102.1 bt102.2 (decide (a0 < (-9223372036854775807))))))
theorem drachmlaw01_WholeSplits.mono_l : ∀ k, (∀ y0 y1 y2 y3 y4 y5, LeO (drachmlaw01_WholeSplits.j0 k y0 y1 y2 y3 y4 y5) (drachmlaw01_WholeSplits.j0 (k + 1) y0 y1 y2 y3 y4 y5)) ∧ (∀ y0 y1 y2 y3 y4 y5, LeO (drachmlaw01_WholeSplits.j1 k y0 y1 y2 y3 y4 y5) (drachmlaw01_WholeSplits.j1 (k + 1) y0 y1 y2 y3 y4 y5)) ∧ (∀ y0 y1 y2 y3 y4 y5, LeO (drachmlaw01_WholeSplits.l0 k y0 y1 y2 y3 y4 y5) (drachmlaw01_WholeSplits.l0 (k + 1) y0 y1 y2 y3 y4 y5))
  | 0 => ⟨fun _ _ _ _ _ _ r h => by simp [drachmlaw01_WholeSplits.j0] at h, fun _ _ _ _ _ _ r h => by simp [drachmlaw01_WholeSplits.j1] at h, fun _ _ _ _ _ _ r h => by simp [drachmlaw01_WholeSplits.l0] at h⟩
  | k + 1 => by
    obtain ⟨ih0, ih1, ih2⟩ := drachmlaw01_WholeSplits.mono_l k
    refine ⟨?_, ?_, ?_⟩
    · intro y0 y1 y2 y3 y4 y5
      unfold drachmlaw01_WholeSplits.j0
      repeat' first
      | (with_reducible exact ih0 _ _ _ _ _ _)
      | (with_reducible exact ih1 _ _ _ _ _ _)
      | (with_reducible exact ih2 _ _ _ _ _ _)
      | (with_reducible exact drachmlaw01_awake.mono _)
      | (with_reducible exact whole_Mul.mono _ _ _)
      | (with_reducible exact whole_Split.mono _ _ _)
      | (with_reducible exact LeO.refl _)
      | (with_reducible exact LeO.none _)
      | (with_reducible refine LeO.ite ?_ ?_)
      | (with_reducible refine LeO.bind ?_ (fun _ => ?_))
      | exact ih0 _ _ _ _ _ _
      | exact ih1 _ _ _ _ _ _
      | exact ih2 _ _ _ _ _ _
      | exact drachmlaw01_awake.mono _
      | exact whole_Mul.mono _ _ _
      | exact whole_Split.mono _ _ _
      | exact LeO.none _
      | refine LeO.ite ?_ ?_
      | refine LeO.bind ?_ (fun _ => ?_)
    · intro y0 y1 y2 y3 y4 y5
      unfold drachmlaw01_WholeSplits.j1
      repeat' first
      | (with_reducible exact ih0 _ _ _ _ _ _)
      | (with_reducible exact ih1 _ _ _ _ _ _)
      | (with_reducible exact ih2 _ _ _ _ _ _)
      | (with_reducible exact drachmlaw01_awake.mono _)
      | (with_reducible exact whole_Mul.mono _ _ _)
      | (with_reducible exact whole_Split.mono _ _ _)
      | (with_reducible exact LeO.refl _)
      | (with_reducible exact LeO.none _)
      | (with_reducible refine LeO.ite ?_ ?_)
      | (with_reducible refine LeO.bind ?_ (fun _ => ?_))
      | exact ih0 _ _ _ _ _ _
      | exact ih1 _ _ _ _ _ _
      | exact ih2 _ _ _ _ _ _
      | exact drachmlaw01_awake.mono _
      | exact whole_Mul.mono _ _ _
      | exact whole_Split.mono _ _ _
      | exact LeO.none _
      | refine LeO.ite ?_ ?_
      | refine LeO.bind ?_ (fun _ => ?_)
    · intro y0 y1 y2 y3 y4 y5
      unfold drachmlaw01_WholeSplits.l0
      repeat' first
      | (with_reducible exact ih0 _ _ _ _ _ _)
      | (with_reducible exact ih1 _ _ _ _ _ _)
      | (with_reducible exact ih2 _ _ _ _ _ _)
      | (with_reducible exact drachmlaw01_awake.mono _)
      | (with_reducible exact whole_Mul.mono _ _ _)
      | (with_reducible exact whole_Split.mono _ _ _)
      | (with_reducible exact LeO.refl _)
      | (with_reducible exact LeO.none _)
      | (with_reducible refine LeO.ite ?_ ?_)
      | (with_reducible refine LeO.bind ?_ (fun _ => ?_))
      | exact ih0 _ _ _ _ _ _
      | exact ih1 _ _ _ _ _ _
      | exact ih2 _ _ _ _ _ _
      | exact drachmlaw01_awake.mono _
      | exact whole_Mul.mono _ _ _
      | exact whole_Split.mono _ _ _
      | exact LeO.none _
      | refine LeO.ite ?_ ?_
      | refine LeO.bind ?_ (fun _ => ?_)
theorem drachmlaw01_WholeSplits.mono : ∀ a0 a1 k, LeO (drachmlaw01_WholeSplits.f k a0 a1) (drachmlaw01_WholeSplits.f (k + 1) a0 a1) := by
  intro a0 a1 k
  obtain ⟨ih0, ih1, ih2⟩ := drachmlaw01_WholeSplits.mono_l k
  unfold drachmlaw01_WholeSplits.f
  repeat' first
      | (with_reducible exact ih0 _ _ _ _ _ _)
      | (with_reducible exact ih1 _ _ _ _ _ _)
      | (with_reducible exact ih2 _ _ _ _ _ _)
      | (with_reducible exact drachmlaw01_awake.mono _)
      | (with_reducible exact whole_Mul.mono _ _ _)
      | (with_reducible exact whole_Split.mono _ _ _)
      | (with_reducible exact LeO.refl _)
      | (with_reducible exact LeO.none _)
      | (with_reducible refine LeO.ite ?_ ?_)
      | (with_reducible refine LeO.bind ?_ (fun _ => ?_))
      | exact ih0 _ _ _ _ _ _
      | exact ih1 _ _ _ _ _ _
      | exact ih2 _ _ _ _ _ _
      | exact drachmlaw01_awake.mono _
      | exact whole_Mul.mono _ _ _
      | exact whole_Split.mono _ _ _
      | exact LeO.none _
      | refine LeO.ite ?_ ?_
      | refine LeO.bind ?_ (fun _ => ?_)
set_option maxHeartbeats 8000000 in
set_option maxRecDepth 100000 in
theorem drachmlaw01_WholeSplits.calls (k : Nat) (a0 : Int) (a1 : Int) (r : Bool) (w : World) (h : drachmlaw01_WholeSplits.f k a0 a1 = some r) :
    Calls Try.prog 7 #[.int .i64 a0, .int .i64 a1] w fun e w' => e = .returned (.bool r) ∧ Below w.heap.size w w' := by
  have HB := Aside0.mk (Below.refl w.heap.size w)
  have H : ((drachmlaw01_awake.f k).bind fun t101 => ((whole_Split.f k a0 (wrap64 (2 + (Int.tmod (wrap64 ((Int.tmod a1 999) + 999)) 999)))).bind fun bt102 => (if a0 = 0 then (drachmlaw01_WholeSplits.j0 k a0 t101 (wrap64 (2 + (Int.tmod (wrap64 ((Int.tmod a1 999) + 999)) 999))) bt102.1 bt102.2 true) else (drachmlaw01_WholeSplits.j0 k a0 t101 (wrap64 (2 + (Int.tmod (wrap64 ((Int.tmod a1 999) + 999)) 999))) bt102.1 bt102.2 (decide (a0 < (-9223372036854775807))))))) = some r := h
  clear h
  replace H := Option.bind_eq_some_iff.mp H
  obtain ⟨t101, A30, H⟩ := H
  replace H : ((whole_Split.f k a0 (wrap64 (2 + (Int.tmod (wrap64 ((Int.tmod a1 999) + 999)) 999)))).bind fun bt102 => (if a0 = 0 then (drachmlaw01_WholeSplits.j0 k a0 t101 (wrap64 (2 + (Int.tmod (wrap64 ((Int.tmod a1 999) + 999)) 999))) bt102.1 bt102.2 true) else (drachmlaw01_WholeSplits.j0 k a0 t101 (wrap64 (2 + (Int.tmod (wrap64 ((Int.tmod a1 999) + 999)) 999))) bt102.1 bt102.2 (decide (a0 < (-9223372036854775807)))))) = some r := H
  have A3 := Aside0.mk A30
  clear A30
  replace H := Option.bind_eq_some_iff.mp H
  obtain ⟨⟨t102, t103⟩, A40, H⟩ := H
  replace H : (if a0 = 0 then (drachmlaw01_WholeSplits.j0 k a0 t101 (wrap64 (2 + (Int.tmod (wrap64 ((Int.tmod a1 999) + 999)) 999))) t102 t103 true) else (drachmlaw01_WholeSplits.j0 k a0 t101 (wrap64 (2 + (Int.tmod (wrap64 ((Int.tmod a1 999) + 999)) 999))) t102 t103 (decide (a0 < (-9223372036854775807))))) = some r := H
  have A4 := Aside0.mk A40
  clear A40
  have HC5 := Aside0.mk H
  clear H
  go_enter Try.func7, Try.ntmps7
  go_upto_region 4 with (first | ((with_reducible refine gate_callee (f := 10) rfl ?_); refine goesL_ (some 13) rfl rfl Try.func10 (by kernel_rfl) rfl #[] rfl (by (try simp only [List.map_toArray, List.map_cons, List.map_nil]); first | done | rfl | (simp only [List.length_drop, List.length_take]; rfl)) ?_; (with_reducible refine (drachmlaw01_awake.calls k  t101 _ A3.out).mono ?_); rintro e w6 ⟨rfl, hb⟩; refine ⟨_, rfl, ?_⟩; have n0_ := Aside0.mk (below_step (by repeat (first | (with_reducible first | exact HB.out | apply below_alloc | apply pw_below_drewN | apply below_drew1) | exact HB.out)) hb); clear HB; have HB := n0_; clear n0_; (try clear hb); (try clear hb2); (try clear hk); (try clear hi)) | ((with_reducible refine gate_callee (f := 15) rfl ?_); refine goesL_ (some 22) rfl rfl Try.func15 (by kernel_rfl) rfl #[.int .i64 a0, .int .i64 (wrap64 (2 + (Int.tmod (wrap64 ((Int.tmod a1 999) + 999)) 999)))] rfl (by (try simp only [List.map_toArray, List.map_cons, List.map_nil]); first | done | rfl | (simp only [List.length_drop, List.length_take]; rfl)) ?_; (with_reducible refine (whole_Split.calls k a0 (wrap64 (2 + (Int.tmod (wrap64 ((Int.tmod a1 999) + 999)) 999))) t102 t103 _ A4.out).mono ?_); rintro e w' ⟨rfl, ⟨nd, rfl⟩⟩; refine ⟨_, rfl, ?_⟩))
  (try simp only [Act.put, List.setIfInBounds_toArray, List.set_cons_zero, List.set_cons_succ])
  go_cut [30] (fun v30 wc => ∃ (kq : Nat) (x30_4 : Bool), v30 = .bool x30_4 ∧ Aside0 (drachmlaw01_WholeSplits.j0 kq a0 t101 (wrap64 (2 + (Int.tmod (wrap64 ((Int.tmod a1 999) + 999)) 999))) t102 t103 x30_4 = some r) ∧ Aside0 (kq ≤ k) ∧ Aside0 (Below w.heap.size w wc))
  case first =>
    have H := HC5.out
    clear HC5
    by_cases c7 : a0 = 0
    · rw [if_pos c7] at H
      have c7b0 : (a0 == 0) = true := beq_iff_eq.mpr c7
      have c7b1 : (a0 != 0) = false := bne_eq_false_iff_eq.mpr c7
      clear c7
      (first | rw [c7b0] | (simp only [i64_w, i32_w]; rw [c7b0]) | skip)
      have H' := Aside0.mk H
      clear H
      go_wp2
      go_meet
      case rel => exact ⟨_, (true), (by first | rfl | (simp; done) | (simp [*]; done)), H', ⟨by first | omega | exact Nat.le_refl _⟩, ⟨by repeat (first | (with_reducible first | exact HB.out | apply below_alloc | apply pw_below_drewN | apply below_drew1) | exact HB.out)⟩⟩
    · rw [if_neg c7] at H
      have c7b0 : (a0 == 0) = false := beq_eq_false_iff_ne.mpr c7
      have c7b1 : (a0 != 0) = true := bne_iff_ne.mpr c7
      (first | rw [c7b0] | (simp only [i64_w, i32_w]; rw [c7b0]) | skip)
      have H' := Aside0.mk H
      clear H
      go_wp2
      go_meet
      case rel => exact ⟨_, (decide (a0 < (-9223372036854775807))), (by first | rfl | (simp; done) | (simp [*]; done)), H', ⟨by first | omega | exact Nat.le_refl _⟩, ⟨by repeat (first | (with_reducible first | exact HB.out | apply below_alloc | apply pw_below_drewN | apply below_drew1) | exact HB.out)⟩⟩
  case rest =>
    clear HC5
    try clear c1
    try clear p2
    try clear p6
    try clear c7
    try clear c7b0
    try clear c7b1
    obtain ⟨kq, x30_4, rfl, HA, HJ4, HB⟩ := hcut
    cases kq with
    | zero => exact absurd HA.out (by simp [drachmlaw01_WholeSplits.j0])
    | succ kj4 =>
      have H := HA.out
      clear HA
      simp only [drachmlaw01_WholeSplits.j0] at H
      by_cases c8 : x30_4 = true
      · subst c8
        have H1 : (if t101 = true then (if t102 = 0 then (some (t103 == a0)) else (some false)) else (some false)) = some r := by rw [if_pos rfl] at H; exact H
        clear H
        have H := H1
        clear H1
        by_cases c9 : t101 = true
        · subst c9
          have H1 : (if t102 = 0 then (some (t103 == a0)) else (some false)) = some r := by rw [if_pos rfl] at H; exact H
          clear H
          have H := H1
          clear H1
          by_cases c10 : t102 = 0
          · rw [if_pos c10] at H
            have c10b0 : (t102 == 0) = true := beq_iff_eq.mpr c10
            have c10b1 : (t102 != 0) = false := bne_eq_false_iff_eq.mpr c10
            clear c10
            obtain rfl := Option.some.inj H
            go_wp2
            go_ret
            exact ⟨by first | rfl | (simp [errW_none, errW_some] <;> rfl) | (simp [*, errW_none, errW_some] <;> rfl), by repeat (first | (with_reducible first | exact HB.out | apply below_alloc | apply pw_below_drewN | apply below_drew1) | exact HB.out)⟩
          · rw [if_neg c10] at H
            have c10b0 : (t102 == 0) = false := beq_eq_false_iff_ne.mpr c10
            have c10b1 : (t102 != 0) = true := bne_iff_ne.mpr c10
            obtain rfl := Option.some.inj H
            go_wp2
            go_ret
            exact ⟨by first | rfl | (simp [errW_none, errW_some] <;> rfl) | (simp [*, errW_none, errW_some] <;> rfl), by repeat (first | (with_reducible first | exact HB.out | apply below_alloc | apply pw_below_drewN | apply below_drew1) | exact HB.out)⟩
        · replace c9 := Bool.eq_false_iff.mpr c9
          subst c9
          have H1 : (some false) = some r := by rw [if_neg (show ¬ (false = true) by decide)] at H; exact H
          clear H
          have H := H1
          clear H1
          obtain rfl := Option.some.inj H
          go_wp2
          go_ret
          exact ⟨by first | rfl | (simp [errW_none, errW_some] <;> rfl) | (simp [*, errW_none, errW_some] <;> rfl), by repeat (first | (with_reducible first | exact HB.out | apply below_alloc | apply pw_below_drewN | apply below_drew1) | exact HB.out)⟩
      · replace c8 := Bool.eq_false_iff.mpr c8
        subst c8
        have H1 : (if t102 < 0 then (drachmlaw01_WholeSplits.j1 kj4 a0 t101 (wrap64 (2 + (Int.tmod (wrap64 ((Int.tmod a1 999) + 999)) 999))) t102 t103 true) else (if t102 > 63 then (drachmlaw01_WholeSplits.j1 kj4 a0 t101 (wrap64 (2 + (Int.tmod (wrap64 ((Int.tmod a1 999) + 999)) 999))) t102 t103 true) else (if t103 = 0 then (drachmlaw01_WholeSplits.j1 kj4 a0 t101 (wrap64 (2 + (Int.tmod (wrap64 ((Int.tmod a1 999) + 999)) 999))) t102 t103 true) else (if (wrap64 (2 + (Int.tmod (wrap64 ((Int.tmod a1 999) + 999)) 999))) = 0 then (none) else (drachmlaw01_WholeSplits.j1 kj4 a0 t101 (wrap64 (2 + (Int.tmod (wrap64 ((Int.tmod a1 999) + 999)) 999))) t102 t103 ((Int.tmod t103 (wrap64 (2 + (Int.tmod (wrap64 ((Int.tmod a1 999) + 999)) 999)))) == 0)))))) = some r := by rw [if_neg (show ¬ (false = true) by decide)] at H; exact H
        clear H
        have H := H1
        clear H1
        have HC11 := Aside0.mk H
        clear H
        go_upto_region 6 with (fail)
        go_cut [56] (fun v56 wc => ∃ (kq : Nat) (x56_10 : Bool), v56 = .bool x56_10 ∧ Aside0 (drachmlaw01_WholeSplits.j1 kq a0 t101 (wrap64 (2 + (Int.tmod (wrap64 ((Int.tmod a1 999) + 999)) 999))) t102 t103 x56_10 = some r) ∧ Aside0 (kq ≤ kj4) ∧ Aside0 (Below w.heap.size w wc))
        case first =>
          have H := HC11.out
          clear HC11
          by_cases c12 : t102 < 0
          · rw [if_pos c12] at H
            have c12b0 : decide (t102 < 0) = true := decide_eq_true c12
            clear c12
            (first | rw [c12b0] | (simp only [i64_w, i32_w]; rw [c12b0]) | skip)
            have H' := Aside0.mk H
            clear H
            go_wp2
            go_meet
            case rel => exact ⟨_, (true), (by first | rfl | (simp; done) | (simp [*]; done)), H', ⟨by have := HJ4.out; first | omega | exact Nat.le_refl _⟩, ⟨by repeat (first | (with_reducible first | exact HB.out | apply below_alloc | apply pw_below_drewN | apply below_drew1) | exact HB.out)⟩⟩
          · rw [if_neg c12] at H
            have c12b0 : decide (t102 < 0) = false := decide_eq_false c12
            clear c12
            (first | rw [c12b0] | (simp only [i64_w, i32_w]; rw [c12b0]) | skip)
            by_cases c13 : t102 > 63
            · rw [if_pos c13] at H
              have c13b0 : decide (63 < t102) = true := decide_eq_true c13
              clear c13
              have H' := Aside0.mk H
              clear H
              go_wp2
              go_meet
              case rel => exact ⟨_, (true), (by first | rfl | (simp; done) | (simp [*]; done)), H', ⟨by have := HJ4.out; first | omega | exact Nat.le_refl _⟩, ⟨by repeat (first | (with_reducible first | exact HB.out | apply below_alloc | apply pw_below_drewN | apply below_drew1) | exact HB.out)⟩⟩
            · rw [if_neg c13] at H
              have c13b0 : decide (63 < t102) = false := decide_eq_false c13
              clear c13
              by_cases c14 : t103 = 0
              · rw [if_pos c14] at H
                have c14b0 : (t103 == 0) = true := beq_iff_eq.mpr c14
                have c14b1 : (t103 != 0) = false := bne_eq_false_iff_eq.mpr c14
                clear c14
                have H' := Aside0.mk H
                clear H
                go_wp2
                go_meet
                case rel => exact ⟨_, (true), (by first | rfl | (simp; done) | (simp [*]; done)), H', ⟨by have := HJ4.out; first | omega | exact Nat.le_refl _⟩, ⟨by repeat (first | (with_reducible first | exact HB.out | apply below_alloc | apply pw_below_drewN | apply below_drew1) | exact HB.out)⟩⟩
              · rw [if_neg c14] at H
                have c14b0 : (t103 == 0) = false := beq_eq_false_iff_ne.mpr c14
                have c14b1 : (t103 != 0) = true := bne_iff_ne.mpr c14
                by_cases c15 : (wrap64 (2 + (Int.tmod (wrap64 ((Int.tmod a1 999) + 999)) 999))) = 0
                · rw [if_pos c15] at H
                  exact absurd H (by simp)
                · rw [if_neg c15] at H
                  have c15b0 : ((wrap64 (2 + (Int.tmod (wrap64 ((Int.tmod a1 999) + 999)) 999))) == 0) = false := beq_eq_false_iff_ne.mpr c15
                  have c15b1 : ((wrap64 (2 + (Int.tmod (wrap64 ((Int.tmod a1 999) + 999)) 999))) != 0) = true := bne_iff_ne.mpr c15
                  have H' := Aside0.mk H
                  clear H
                  go_wp2
                  go_meet
                  case rel => exact ⟨_, (((Int.tmod t103 (wrap64 (2 + (Int.tmod (wrap64 ((Int.tmod a1 999) + 999)) 999)))) == 0)), (by first | rfl | (simp; done) | (simp [*]; done)), H', ⟨by have := HJ4.out; first | omega | exact Nat.le_refl _⟩, ⟨by repeat (first | (with_reducible first | exact HB.out | apply below_alloc | apply pw_below_drewN | apply below_drew1) | exact HB.out)⟩⟩
        case rest =>
          clear HC11
          try clear c1
          try clear p2
          try clear p6
          try clear c7
          try clear c7b0
          try clear c7b1
          try clear c8
          try clear c9
          try clear c10
          try clear c10b0
          try clear c10b1
          try clear c12
          try clear c12b0
          try clear c13
          try clear c13b0
          try clear c14
          try clear c14b0
          try clear c14b1
          try clear c15
          try clear c15b0
          try clear c15b1
          try clear p2
          try clear p6
          obtain ⟨kq, x56_10, rfl, HA, HJ10, HB⟩ := hcut
          cases kq with
          | zero => exact absurd HA.out (by simp [drachmlaw01_WholeSplits.j1])
          | succ kj10 =>
            have H := HA.out
            clear HA
            simp only [drachmlaw01_WholeSplits.j1] at H
            by_cases c16 : x56_10 = true
            · subst c16
              have H1 : (some false) = some r := by rw [if_pos rfl] at H; exact H
              clear H
              have H := H1
              clear H1
              obtain rfl := Option.some.inj H
              go_wp2
              go_ret
              exact ⟨by first | rfl | (simp [errW_none, errW_some] <;> rfl) | (simp [*, errW_none, errW_some] <;> rfl), by repeat (first | (with_reducible first | exact HB.out | apply below_alloc | apply pw_below_drewN | apply below_drew1) | exact HB.out)⟩
            · replace c16 := Bool.eq_false_iff.mpr c16
              subst c16
              have H1 : (drachmlaw01_WholeSplits.l0 kj10 a0 t101 (wrap64 (2 + (Int.tmod (wrap64 ((Int.tmod a1 999) + 999)) 999))) t102 t103 0) = some r := by rw [if_neg (show ¬ (false = true) by decide)] at H; exact H
              clear H
              have H := H1
              clear H1
              have H' := Aside0.mk H
              clear H
              go_wp2
              go_loopg [9, 10] kj10 (fun kq v9 v10 w' => ∃ (x9_3 : Int) (x10_3 : Int), v9 = .int .i64 x9_3 ∧ v10 = .int .i64 x10_3 ∧ Aside0 (drachmlaw01_WholeSplits.l0 kq a0 t101 (wrap64 (2 + (Int.tmod (wrap64 ((Int.tmod a1 999) + 999)) 999))) t102 x9_3 x10_3 = some r) ∧ Aside0 (kq ≤ kj10) ∧ Aside0 (Below w.heap.size w w'))
              case atStart => exact ⟨(t103), (0), (by first | rfl | (simp; done) | (simp [*]; done)), (by first | rfl | (simp; done) | (simp [*]; done)), H', ⟨Nat.le_refl _⟩, ⟨by repeat (first | (with_reducible first | exact HB.out | apply below_alloc | apply pw_below_drewN | apply below_drew1) | exact HB.out)⟩⟩
              case round =>
                clear H'
                try clear c1
                try clear p2
                try clear p6
                try clear c7
                try clear c7b0
                try clear c7b1
                try clear c8
                try clear c9
                try clear c10
                try clear c10b0
                try clear c10b1
                try clear c12
                try clear c12b0
                try clear c13
                try clear c13b0
                try clear c14
                try clear c14b0
                try clear c14b1
                try clear c15
                try clear c15b0
                try clear c15b1
                try clear c16
                try clear p2
                try clear p6
                obtain ⟨x9_3, x10_3, rfl, rfl, HA, HK3, HB⟩ := hrel
                cases gk with
                | zero => exact absurd HA.out (by simp [drachmlaw01_WholeSplits.l0])
                | succ k3 =>
                  have H := HA.out
                  clear HA
                  simp only [drachmlaw01_WholeSplits.l0] at H
                  by_cases c17 : x10_3 < t102
                  · rw [if_pos c17] at H
                    have c17b0 : decide (x10_3 < t102) = true := decide_eq_true c17
                    clear c17
                    replace H := Option.bind_eq_some_iff.mp H
                    obtain ⟨⟨t104, t105⟩, A180, H⟩ := H
                    replace H : (if t105 = true then (drachmlaw01_WholeSplits.l0 k3 a0 t101 (wrap64 (2 + (Int.tmod (wrap64 ((Int.tmod a1 999) + 999)) 999))) t102 t104 (wrap64 (x10_3 + 1))) else (some false)) = some r := H
                    have A18 := Aside0.mk A180
                    clear A180
                    by_cases c19 : t105 = true
                    · subst c19
                      have H1 : (drachmlaw01_WholeSplits.l0 k3 a0 t101 (wrap64 (2 + (Int.tmod (wrap64 ((Int.tmod a1 999) + 999)) 999))) t102 t104 (wrap64 (x10_3 + 1))) = some r := by rw [if_pos rfl] at H; exact H
                      clear H
                      have H := H1
                      clear H1
                      have H' := Aside0.mk H
                      clear H
                      go_wp2_with (first | ((with_reducible refine gate_callee (f := 13) rfl ?_); refine goesL_ (some 66) rfl rfl Try.func13 (by kernel_rfl) rfl #[.int .i64 x9_3, .int .i64 (wrap64 (2 + (Int.tmod (wrap64 ((Int.tmod a1 999) + 999)) 999)))] rfl (by (try simp only [List.map_toArray, List.map_cons, List.map_nil]); first | done | rfl | (simp only [List.length_drop, List.length_take]; rfl)) ?_; (with_reducible refine (whole_Mul.calls k3 x9_3 (wrap64 (2 + (Int.tmod (wrap64 ((Int.tmod a1 999) + 999)) 999))) t104 true _ A18.out).mono ?_); rintro e w20 ⟨rfl, hb⟩; refine ⟨_, rfl, ?_⟩; have n0_ := Aside0.mk (below_step (by repeat (first | (with_reducible first | exact HB.out | apply below_alloc | apply pw_below_drewN | apply below_drew1) | exact HB.out)) hb); clear HB; have HB := n0_; clear n0_; (try clear hb); (try clear hb2); (try clear hk); (try clear hi)))
                      go_roundg k3
                      case measure => have := HJ4.out; have := HJ10.out; have := HK3.out; omega
                      case rel => exact ⟨(t104), (wrap64 (x10_3 + 1)), (by first | rfl | (simp; done) | (simp [*]; done)), (by first | rfl | (simp; done) | (simp [*]; done)), H', ⟨by have := HJ4.out; have := HJ10.out; have := HK3.out; omega⟩, ⟨by repeat (first | (with_reducible first | exact HB.out | apply below_alloc | apply pw_below_drewN | apply below_drew1) | exact HB.out)⟩⟩
                    · replace c19 := Bool.eq_false_iff.mpr c19
                      subst c19
                      have H1 : (some false) = some r := by rw [if_neg (show ¬ (false = true) by decide)] at H; exact H
                      clear H
                      have H := H1
                      clear H1
                      obtain rfl := Option.some.inj H
                      go_wp2_with (first | ((with_reducible refine gate_callee (f := 13) rfl ?_); refine goesL_ (some 66) rfl rfl Try.func13 (by kernel_rfl) rfl #[.int .i64 x9_3, .int .i64 (wrap64 (2 + (Int.tmod (wrap64 ((Int.tmod a1 999) + 999)) 999)))] rfl (by (try simp only [List.map_toArray, List.map_cons, List.map_nil]); first | done | rfl | (simp only [List.length_drop, List.length_take]; rfl)) ?_; (with_reducible refine (whole_Mul.calls k3 x9_3 (wrap64 (2 + (Int.tmod (wrap64 ((Int.tmod a1 999) + 999)) 999))) t104 false _ A18.out).mono ?_); rintro e w21 ⟨rfl, hb⟩; refine ⟨_, rfl, ?_⟩; have n0_ := Aside0.mk (below_step (by repeat (first | (with_reducible first | exact HB.out | apply below_alloc | apply pw_below_drewN | apply below_drew1) | exact HB.out)) hb); clear HB; have HB := n0_; clear n0_; (try clear hb); (try clear hb2); (try clear hk); (try clear hi)))
                      go_ret
                      exact ⟨by first | rfl | (simp [errW_none, errW_some] <;> rfl) | (simp [*, errW_none, errW_some] <;> rfl), by repeat (first | (with_reducible first | exact HB.out | apply below_alloc | apply pw_below_drewN | apply below_drew1) | exact HB.out)⟩
                  · rw [if_neg c17] at H
                    have c17b0 : decide (x10_3 < t102) = false := decide_eq_false c17
                    clear c17
                    by_cases c22 : t101 = true
                    · subst c22
                      have H1 : (some (x9_3 == a0)) = some r := by rw [if_pos rfl] at H; exact H
                      clear H
                      have H := H1
                      clear H1
                      obtain rfl := Option.some.inj H
                      go_wp2
                      go_ret
                      exact ⟨by first | rfl | (simp [errW_none, errW_some] <;> rfl) | (simp [*, errW_none, errW_some] <;> rfl), by repeat (first | (with_reducible first | exact HB.out | apply below_alloc | apply pw_below_drewN | apply below_drew1) | exact HB.out)⟩
                    · replace c22 := Bool.eq_false_iff.mpr c22
                      subst c22
                      have H1 : (some false) = some r := by rw [if_neg (show ¬ (false = true) by decide)] at H; exact H
                      clear H
                      have H := H1
                      clear H1
                      obtain rfl := Option.some.inj H
                      go_wp2
                      go_ret
                      exact ⟨by first | rfl | (simp [errW_none, errW_some] <;> rfl) | (simp [*, errW_none, errW_some] <;> rfl), by repeat (first | (with_reducible first | exact HB.out | apply below_alloc | apply pw_below_drewN | apply below_drew1) | exact HB.out)⟩

/-- THE ONE PURE STATEMENT of drachmlaw01_WholeSplits: yours. -/
def drachmlaw01_WholeSplits.Pure : Prop := ∀ (a0 : Int) (a1 : Int), (Lit.int .i64 a0).wf = true → (Lit.int .i64 a1).wf = true → ∃ k, drachmlaw01_WholeSplits.f k a0 a1 = some true
theorem drachmlaw01_WholeSplits.walk (P : drachmlaw01_WholeSplits.Pure) (a0 : Int) (a1 : Int) (w : World) (w0 : (Lit.int .i64 a0).wf = true) (w1 : (Lit.int .i64 a1).wf = true) :
    Calls Try.prog 7 #[.int .i64 a0, .int .i64 a1] w fun e w' => e = .returned (.bool true) ∧ Below w.heap.size w w' := by
  obtain ⟨k, h⟩ := P a0 a1 w0 w1
  refine (drachmlaw01_WholeSplits.calls k a0 a1 true w h).mono ?_
  rintro e w' ⟨rfl, hd⟩
  exact ⟨rfl, hd⟩

end Go.Proofs.Ytbfajaeghiodnaa.PWholeSplits
