/- Printed by a program of this session (wip/tools/prt.py) out of the translation: plain functions, and that the calls come to just them. No conditions beyond those that stand in each theorem. -/
import Derived.Test.YtbfajaeghiodnaaPWholeSumsx0
namespace Go.Proofs.Ytbfajaeghiodnaa.PWholeSums
open Go.RowKit Go.Proofs.YtbfajaeghiodnaaW.PrintWords Go.Proofs.YtbfajaeghiodnaaW.PrintLast Go.Proofs.YtbfajaeghiodnaaW.PrintMore Go.Proofs.Ytbfajaeghiodnaa.PBase
attribute [local go_sem] max2_int min2_int max_two min_two max_three min_three max_four min_four   -- for this text's walks alone
set_option linter.unusedVariables false
set_option linter.unusedSimpArgs false

/-! ### drachmlaw01_WholeSums: function 4 -/
def drachmlaw01_WholeSums.j0 : Nat → Int → Int → Bool → Int → Bool → Bool → Option (Bool)
  | 0, _, _, _, _, _, _ => none
  | k + 1, x0, x1, x5, x6, x7, x76 => if x76 = true then (some false) else (if x7 = true then ((whole_Add.f k x6 (wrap64 (-x1))).bind fun bt114 => (if x5 = true then (if bt114.2 = true then (some (bt114.1 == x0)) else (some false)) else (some false))) else (if x5 = true then (some (x6 == 0)) else (some false)))
def drachmlaw01_WholeSums.f (k : Nat) (a0 : Int) (a1 : Int) : Option (Bool) := (drachmlaw01_awake.f k).bind fun t101 => ((whole_Add.f k a0 a1).bind fun bt102 => ((whole_Add.f k a1 a0).bind fun bt104 => ((whole_Mul.f k a0 a1).bind fun bt106 => ((whole_Mul.f k a1 a0).bind fun bt108 => ((whole_Add.f k 9223372036854775807 1).bind fun bt110 => ((whole_Add.f k (-9223372036854775807) (-1)).bind fun bt112 => (if bt102.1 = bt104.1 then (if (bt102.2 != bt104.2) = true then (drachmlaw01_WholeSums.j0 k a0 a1 t101 bt102.1 bt102.2 true) else (if bt106.1 = bt108.1 then (if (bt106.2 != bt108.2) = true then (drachmlaw01_WholeSums.j0 k a0 a1 t101 bt102.1 bt102.2 true) else (if bt110.2 = true then (drachmlaw01_WholeSums.j0 k a0 a1 t101 bt102.1 bt102.2 true) else (drachmlaw01_WholeSums.j0 k a0 a1 t101 bt102.1 bt102.2 bt112.2))) else (drachmlaw01_WholeSums.j0 k a0 a1 t101 bt102.1 bt102.2 true))) else (drachmlaw01_WholeSums.j0 k a0 a1 t101 bt102.1 bt102.2 true))))))))
theorem drachmlaw01_WholeSums.mono_l : ∀ k, (∀ y0 y1 y2 y3 y4 y5, LeO (drachmlaw01_WholeSums.j0 k y0 y1 y2 y3 y4 y5) (drachmlaw01_WholeSums.j0 (k + 1) y0 y1 y2 y3 y4 y5))
  | 0 => fun _ _ _ _ _ _ r h => by simp [drachmlaw01_WholeSums.j0] at h
  | k + 1 => by
    have ih0 := drachmlaw01_WholeSums.mono_l k
    · intro y0 y1 y2 y3 y4 y5
      unfold drachmlaw01_WholeSums.j0
      repeat' first
      | (with_reducible exact ih0 _ _ _ _ _ _)
      | (with_reducible exact drachmlaw01_awake.mono _)
      | (with_reducible exact whole_Add.mono _ _ _)
      | (with_reducible exact whole_Mul.mono _ _ _)
      | (with_reducible exact LeO.refl _)
      | (with_reducible exact LeO.none _)
      | (with_reducible refine LeO.ite ?_ ?_)
      | (with_reducible refine LeO.bind ?_ (fun _ => ?_))
      | exact ih0 _ _ _ _ _ _
      | exact drachmlaw01_awake.mono _
      | exact whole_Add.mono _ _ _
      | exact whole_Mul.mono _ _ _
      | exact LeO.none _
      | refine LeO.ite ?_ ?_
      | refine LeO.bind ?_ (fun _ => ?_)
theorem drachmlaw01_WholeSums.mono : ∀ a0 a1 k, LeO (drachmlaw01_WholeSums.f k a0 a1) (drachmlaw01_WholeSums.f (k + 1) a0 a1) := by
  intro a0 a1 k
  have ih0 := drachmlaw01_WholeSums.mono_l k
  unfold drachmlaw01_WholeSums.f
  repeat' first
      | (with_reducible exact ih0 _ _ _ _ _ _)
      | (with_reducible exact drachmlaw01_awake.mono _)
      | (with_reducible exact whole_Add.mono _ _ _)
      | (with_reducible exact whole_Mul.mono _ _ _)
      | (with_reducible exact LeO.refl _)
      | (with_reducible exact LeO.none _)
      | (with_reducible refine LeO.ite ?_ ?_)
      | (with_reducible refine LeO.bind ?_ (fun _ => ?_))
      | exact ih0 _ _ _ _ _ _
      | exact drachmlaw01_awake.mono _
      | exact whole_Add.mono _ _ _
      | exact whole_Mul.mono _ _ _
      | exact LeO.none _
      | refine LeO.ite ?_ ?_
      | refine LeO.bind ?_ (fun _ => ?_)
set_option maxHeartbeats 8000000 in
set_option maxRecDepth 100000 in
theorem drachmlaw01_WholeSums.calls (k : Nat) (a0 : Int) (a1 : Int) (r : Bool) (w : World) (h : drachmlaw01_WholeSums.f k a0 a1 = some r) :
    Calls Try.prog 4 #[.int .i64 a0, .int .i64 a1] w fun e w' => e = .returned (.bool r) ∧ Below w.heap.size w w' := by
  have HB := Aside0.mk (Below.refl w.heap.size w)
  have H : ((drachmlaw01_awake.f k).bind fun t101 => ((whole_Add.f k a0 a1).bind fun bt102 => ((whole_Add.f k a1 a0).bind fun bt104 => ((whole_Mul.f k a0 a1).bind fun bt106 => ((whole_Mul.f k a1 a0).bind fun bt108 => ((whole_Add.f k 9223372036854775807 1).bind fun bt110 => ((whole_Add.f k (-9223372036854775807) (-1)).bind fun bt112 => (if bt102.1 = bt104.1 then (if (bt102.2 != bt104.2) = true then (drachmlaw01_WholeSums.j0 k a0 a1 t101 bt102.1 bt102.2 true) else (if bt106.1 = bt108.1 then (if (bt106.2 != bt108.2) = true then (drachmlaw01_WholeSums.j0 k a0 a1 t101 bt102.1 bt102.2 true) else (if bt110.2 = true then (drachmlaw01_WholeSums.j0 k a0 a1 t101 bt102.1 bt102.2 true) else (drachmlaw01_WholeSums.j0 k a0 a1 t101 bt102.1 bt102.2 bt112.2))) else (drachmlaw01_WholeSums.j0 k a0 a1 t101 bt102.1 bt102.2 true))) else (drachmlaw01_WholeSums.j0 k a0 a1 t101 bt102.1 bt102.2 true))))))))) = some r := h
  clear h
  replace H := Option.bind_eq_some_iff.mp H
  obtain ⟨t101, A30, H⟩ := H
  replace H : ((whole_Add.f k a0 a1).bind fun bt102 => ((whole_Add.f k a1 a0).bind fun bt104 => ((whole_Mul.f k a0 a1).bind fun bt106 => ((whole_Mul.f k a1 a0).bind fun bt108 => ((whole_Add.f k 9223372036854775807 1).bind fun bt110 => ((whole_Add.f k (-9223372036854775807) (-1)).bind fun bt112 => (if bt102.1 = bt104.1 then (if (bt102.2 != bt104.2) = true then (drachmlaw01_WholeSums.j0 k a0 a1 t101 bt102.1 bt102.2 true) else (if bt106.1 = bt108.1 then (if (bt106.2 != bt108.2) = true then (drachmlaw01_WholeSums.j0 k a0 a1 t101 bt102.1 bt102.2 true) else (if bt110.2 = true then (drachmlaw01_WholeSums.j0 k a0 a1 t101 bt102.1 bt102.2 true) else (drachmlaw01_WholeSums.j0 k a0 a1 t101 bt102.1 bt102.2 bt112.2))) else (drachmlaw01_WholeSums.j0 k a0 a1 t101 bt102.1 bt102.2 true))) else (drachmlaw01_WholeSums.j0 k a0 a1 t101 bt102.1 bt102.2 true)))))))) = some r := H
  have A3 := Aside0.mk A30
  clear A30
  replace H := Option.bind_eq_some_iff.mp H
  obtain ⟨⟨t102, t103⟩, A40, H⟩ := H
  replace H : ((whole_Add.f k a1 a0).bind fun bt104 => ((whole_Mul.f k a0 a1).bind fun bt106 => ((whole_Mul.f k a1 a0).bind fun bt108 => ((whole_Add.f k 9223372036854775807 1).bind fun bt110 => ((whole_Add.f k (-9223372036854775807) (-1)).bind fun bt112 => (if t102 = bt104.1 then (if (t103 != bt104.2) = true then (drachmlaw01_WholeSums.j0 k a0 a1 t101 t102 t103 true) else (if bt106.1 = bt108.1 then (if (bt106.2 != bt108.2) = true then (drachmlaw01_WholeSums.j0 k a0 a1 t101 t102 t103 true) else (if bt110.2 = true then (drachmlaw01_WholeSums.j0 k a0 a1 t101 t102 t103 true) else (drachmlaw01_WholeSums.j0 k a0 a1 t101 t102 t103 bt112.2))) else (drachmlaw01_WholeSums.j0 k a0 a1 t101 t102 t103 true))) else (drachmlaw01_WholeSums.j0 k a0 a1 t101 t102 t103 true))))))) = some r := H
  have A4 := Aside0.mk A40
  clear A40
  replace H := Option.bind_eq_some_iff.mp H
  obtain ⟨⟨t104, t105⟩, A50, H⟩ := H
  replace H : ((whole_Mul.f k a0 a1).bind fun bt106 => ((whole_Mul.f k a1 a0).bind fun bt108 => ((whole_Add.f k 9223372036854775807 1).bind fun bt110 => ((whole_Add.f k (-9223372036854775807) (-1)).bind fun bt112 => (if t102 = t104 then (if (t103 != t105) = true then (drachmlaw01_WholeSums.j0 k a0 a1 t101 t102 t103 true) else (if bt106.1 = bt108.1 then (if (bt106.2 != bt108.2) = true then (drachmlaw01_WholeSums.j0 k a0 a1 t101 t102 t103 true) else (if bt110.2 = true then (drachmlaw01_WholeSums.j0 k a0 a1 t101 t102 t103 true) else (drachmlaw01_WholeSums.j0 k a0 a1 t101 t102 t103 bt112.2))) else (drachmlaw01_WholeSums.j0 k a0 a1 t101 t102 t103 true))) else (drachmlaw01_WholeSums.j0 k a0 a1 t101 t102 t103 true)))))) = some r := H
  have A5 := Aside0.mk A50
  clear A50
  replace H := Option.bind_eq_some_iff.mp H
  obtain ⟨⟨t106, t107⟩, A60, H⟩ := H
  replace H : ((whole_Mul.f k a1 a0).bind fun bt108 => ((whole_Add.f k 9223372036854775807 1).bind fun bt110 => ((whole_Add.f k (-9223372036854775807) (-1)).bind fun bt112 => (if t102 = t104 then (if (t103 != t105) = true then (drachmlaw01_WholeSums.j0 k a0 a1 t101 t102 t103 true) else (if t106 = bt108.1 then (if (t107 != bt108.2) = true then (drachmlaw01_WholeSums.j0 k a0 a1 t101 t102 t103 true) else (if bt110.2 = true then (drachmlaw01_WholeSums.j0 k a0 a1 t101 t102 t103 true) else (drachmlaw01_WholeSums.j0 k a0 a1 t101 t102 t103 bt112.2))) else (drachmlaw01_WholeSums.j0 k a0 a1 t101 t102 t103 true))) else (drachmlaw01_WholeSums.j0 k a0 a1 t101 t102 t103 true))))) = some r := H
  have A6 := Aside0.mk A60
  clear A60
  replace H := Option.bind_eq_some_iff.mp H
  obtain ⟨⟨t108, t109⟩, A70, H⟩ := H
  replace H : ((whole_Add.f k 9223372036854775807 1).bind fun bt110 => ((whole_Add.f k (-9223372036854775807) (-1)).bind fun bt112 => (if t102 = t104 then (if (t103 != t105) = true then (drachmlaw01_WholeSums.j0 k a0 a1 t101 t102 t103 true) else (if t106 = t108 then (if (t107 != t109) = true then (drachmlaw01_WholeSums.j0 k a0 a1 t101 t102 t103 true) else (if bt110.2 = true then (drachmlaw01_WholeSums.j0 k a0 a1 t101 t102 t103 true) else (drachmlaw01_WholeSums.j0 k a0 a1 t101 t102 t103 bt112.2))) else (drachmlaw01_WholeSums.j0 k a0 a1 t101 t102 t103 true))) else (drachmlaw01_WholeSums.j0 k a0 a1 t101 t102 t103 true)))) = some r := H
  have A7 := Aside0.mk A70
  clear A70
  replace H := Option.bind_eq_some_iff.mp H
  obtain ⟨⟨t110, t111⟩, A80, H⟩ := H
  replace H : ((whole_Add.f k (-9223372036854775807) (-1)).bind fun bt112 => (if t102 = t104 then (if (t103 != t105) = true then (drachmlaw01_WholeSums.j0 k a0 a1 t101 t102 t103 true) else (if t106 = t108 then (if (t107 != t109) = true then (drachmlaw01_WholeSums.j0 k a0 a1 t101 t102 t103 true) else (if t111 = true then (drachmlaw01_WholeSums.j0 k a0 a1 t101 t102 t103 true) else (drachmlaw01_WholeSums.j0 k a0 a1 t101 t102 t103 bt112.2))) else (drachmlaw01_WholeSums.j0 k a0 a1 t101 t102 t103 true))) else (drachmlaw01_WholeSums.j0 k a0 a1 t101 t102 t103 true))) = some r := H
  have A8 := Aside0.mk A80
  clear A80
  replace H := Option.bind_eq_some_iff.mp H
  obtain ⟨⟨t112, t113⟩, A90, H⟩ := H
  replace H : (if t102 = t104 then (if (t103 != t105) = true then (drachmlaw01_WholeSums.j0 k a0 a1 t101 t102 t103 true) else (if t106 = t108 then (if (t107 != t109) = true then (drachmlaw01_WholeSums.j0 k a0 a1 t101 t102 t103 true) else (if t111 = true then (drachmlaw01_WholeSums.j0 k a0 a1 t101 t102 t103 true) else (drachmlaw01_WholeSums.j0 k a0 a1 t101 t102 t103 t113))) else (drachmlaw01_WholeSums.j0 k a0 a1 t101 t102 t103 true))) else (drachmlaw01_WholeSums.j0 k a0 a1 t101 t102 t103 true)) = some r := H
  have A9 := Aside0.mk A90
  clear A90
  have HC10 := Aside0.mk H
  clear H
  go_enter Try.func4, Try.ntmps4
  go_upto_region 8 with (first | ((with_reducible refine gate_callee (f := 10) rfl ?_); refine goesL_ (some 20) rfl rfl Try.func10 (by kernel_rfl) rfl #[] rfl (by (try simp only [List.map_toArray, List.map_cons, List.map_nil]); first | done | rfl | (simp only [List.length_drop, List.length_take]; rfl)) ?_; (with_reducible refine (drachmlaw01_awake.calls k  t101 _ A3.out).mono ?_); rintro e w11 ⟨rfl, hb⟩; refine ⟨_, rfl, ?_⟩; have n0_ := Aside0.mk (below_step (by repeat (first | (with_reducible first | exact HB.out | apply below_alloc | apply pw_below_drewN | apply below_drew1) | exact HB.out)) hb); clear HB; have HB := n0_; clear n0_; (try clear hb); (try clear hb2); (try clear hk); (try clear hi)) | ((with_reducible refine gate_callee (f := 12) rfl ?_); refine goesL_ (some 24) rfl rfl Try.func12 (by kernel_rfl) rfl #[.int .i64 a0, .int .i64 a1] rfl (by (try simp only [List.map_toArray, List.map_cons, List.map_nil]); first | done | rfl | (simp only [List.length_drop, List.length_take]; rfl)) ?_; (with_reducible refine (whole_Add.calls k a0 a1 t102 t103 _ A4.out).mono ?_); rintro e w12 ⟨rfl, hb⟩; refine ⟨_, rfl, ?_⟩; have n0_ := Aside0.mk (below_step (by repeat (first | (with_reducible first | exact HB.out | apply below_alloc | apply pw_below_drewN | apply below_drew1) | exact HB.out)) hb); clear HB; have HB := n0_; clear n0_; (try clear hb); (try clear hb2); (try clear hk); (try clear hi)) | ((with_reducible refine gate_callee (f := 12) rfl ?_); refine goesL_ (some 30) rfl rfl Try.func12 (by kernel_rfl) rfl #[.int .i64 a1, .int .i64 a0] rfl (by (try simp only [List.map_toArray, List.map_cons, List.map_nil]); first | done | rfl | (simp only [List.length_drop, List.length_take]; rfl)) ?_; (with_reducible refine (whole_Add.calls k a1 a0 t104 t105 _ A5.out).mono ?_); rintro e w13 ⟨rfl, hb⟩; refine ⟨_, rfl, ?_⟩; have n0_ := Aside0.mk (below_step (by repeat (first | (with_reducible first | exact HB.out | apply below_alloc | apply pw_below_drewN | apply below_drew1) | exact HB.out)) hb); clear HB; have HB := n0_; clear n0_; (try clear hb); (try clear hb2); (try clear hk); (try clear hi)) | ((with_reducible refine gate_callee (f := 13) rfl ?_); refine goesL_ (some 36) rfl rfl Try.func13 (by kernel_rfl) rfl #[.int .i64 a0, .int .i64 a1] rfl (by (try simp only [List.map_toArray, List.map_cons, List.map_nil]); first | done | rfl | (simp only [List.length_drop, List.length_take]; rfl)) ?_; (with_reducible refine (whole_Mul.calls k a0 a1 t106 t107 _ A6.out).mono ?_); rintro e w14 ⟨rfl, hb⟩; refine ⟨_, rfl, ?_⟩; have n0_ := Aside0.mk (below_step (by repeat (first | (with_reducible first | exact HB.out | apply below_alloc | apply pw_below_drewN | apply below_drew1) | exact HB.out)) hb); clear HB; have HB := n0_; clear n0_; (try clear hb); (try clear hb2); (try clear hk); (try clear hi)) | ((with_reducible refine gate_callee (f := 13) rfl ?_); refine goesL_ (some 42) rfl rfl Try.func13 (by kernel_rfl) rfl #[.int .i64 a1, .int .i64 a0] rfl (by (try simp only [List.map_toArray, List.map_cons, List.map_nil]); first | done | rfl | (simp only [List.length_drop, List.length_take]; rfl)) ?_; (with_reducible refine (whole_Mul.calls k a1 a0 t108 t109 _ A7.out).mono ?_); rintro e w15 ⟨rfl, hb⟩; refine ⟨_, rfl, ?_⟩; have n0_ := Aside0.mk (below_step (by repeat (first | (with_reducible first | exact HB.out | apply below_alloc | apply pw_below_drewN | apply below_drew1) | exact HB.out)) hb); clear HB; have HB := n0_; clear n0_; (try clear hb); (try clear hb2); (try clear hk); (try clear hi)) | ((with_reducible refine gate_callee (f := 12) rfl ?_); refine goesL_ (some 46) rfl rfl Try.func12 (by kernel_rfl) rfl #[.int .i64 9223372036854775807, .int .i64 1] rfl (by (try simp only [List.map_toArray, List.map_cons, List.map_nil]); first | done | rfl | (simp only [List.length_drop, List.length_take]; rfl)) ?_; (with_reducible refine (whole_Add.calls k 9223372036854775807 1 t110 t111 _ A8.out).mono ?_); rintro e w16 ⟨rfl, hb⟩; refine ⟨_, rfl, ?_⟩; have n0_ := Aside0.mk (below_step (by repeat (first | (with_reducible first | exact HB.out | apply below_alloc | apply pw_below_drewN | apply below_drew1) | exact HB.out)) hb); clear HB; have HB := n0_; clear n0_; (try clear hb); (try clear hb2); (try clear hk); (try clear hi)) | ((with_reducible refine gate_callee (f := 12) rfl ?_); refine goesL_ (some 50) rfl rfl Try.func12 (by kernel_rfl) rfl #[.int .i64 (-9223372036854775807), .int .i64 (-1)] rfl (by (try simp only [List.map_toArray, List.map_cons, List.map_nil]); first | done | rfl | (simp only [List.length_drop, List.length_take]; rfl)) ?_; (with_reducible refine (whole_Add.calls k (-9223372036854775807) (-1) t112 t113 _ A9.out).mono ?_); rintro e w17 ⟨rfl, hb⟩; refine ⟨_, rfl, ?_⟩; have n0_ := Aside0.mk (below_step (by repeat (first | (with_reducible first | exact HB.out | apply below_alloc | apply pw_below_drewN | apply below_drew1) | exact HB.out)) hb); clear HB; have HB := n0_; clear n0_; (try clear hb); (try clear hb2); (try clear hk); (try clear hi)))
  (try simp only [Act.put, List.setIfInBounds_toArray, List.set_cons_zero, List.set_cons_succ])
  go_cut [76] (fun v76 wc => ∃ (kq : Nat) (x76_9 : Bool), v76 = .bool x76_9 ∧ Aside0 (drachmlaw01_WholeSums.j0 kq a0 a1 t101 t102 t103 x76_9 = some r) ∧ Aside0 (kq ≤ k) ∧ Aside0 (Below w.heap.size w wc))
  case first =>
    have H := HC10.out
    clear HC10
    by_cases c18 : t102 = t104
    · rw [if_pos c18] at H
      have c18b0 : (t102 == t104) = true := beq_iff_eq.mpr c18
      have c18b1 : (t102 != t104) = false := bne_eq_false_iff_eq.mpr c18
      clear c18
      (first | rw [c18b0] | (simp only [i64_w, i32_w]; rw [c18b0]) | skip)
      by_cases c19 : (t103 != t105) = true
      · rw [if_pos c19] at H
        have c19b0 : (t103 != t105) = true := c19
        (try (have c19b1 : decide (t103 = t105) = false := by simpa using c19))
        (try (have c19b2 : (t103 == t105) = false := by simpa using c19))
        (try (have c19b3 : ¬ (t103 = t105) := by simpa using c19))
        clear c19
        have H' := Aside0.mk H
        clear H
        go_wp2
        go_meet
        case rel => exact ⟨_, (true), (by first | rfl | (simp; done) | (simp [*]; done)), H', ⟨by first | omega | exact Nat.le_refl _⟩, ⟨by repeat (first | (with_reducible first | exact HB.out | apply below_alloc | apply pw_below_drewN | apply below_drew1) | exact HB.out)⟩⟩
      · rw [if_neg c19] at H
        have c19b0 : (t103 != t105) = false := by simpa using c19
        (try (have c19b1 : decide (t103 = t105) = true := by simpa using c19))
        (try (have c19b2 : (t103 == t105) = true := by simpa using c19))
        clear c19
        by_cases c20 : t106 = t108
        · rw [if_pos c20] at H
          have c20b0 : (t106 == t108) = true := beq_iff_eq.mpr c20
          have c20b1 : (t106 != t108) = false := bne_eq_false_iff_eq.mpr c20
          clear c20
          by_cases c21 : (t107 != t109) = true
          · rw [if_pos c21] at H
            have c21b0 : (t107 != t109) = true := c21
            (try (have c21b1 : decide (t107 = t109) = false := by simpa using c21))
            (try (have c21b2 : (t107 == t109) = false := by simpa using c21))
            (try (have c21b3 : ¬ (t107 = t109) := by simpa using c21))
            clear c21
            have H' := Aside0.mk H
            clear H
            go_wp2
            go_meet
            case rel => exact ⟨_, (true), (by first | rfl | (simp; done) | (simp [*]; done)), H', ⟨by first | omega | exact Nat.le_refl _⟩, ⟨by repeat (first | (with_reducible first | exact HB.out | apply below_alloc | apply pw_below_drewN | apply below_drew1) | exact HB.out)⟩⟩
          · rw [if_neg c21] at H
            have c21b0 : (t107 != t109) = false := by simpa using c21
            (try (have c21b1 : decide (t107 = t109) = true := by simpa using c21))
            (try (have c21b2 : (t107 == t109) = true := by simpa using c21))
            clear c21
            by_cases c22 : t111 = true
            · subst c22
              have H1 : (drachmlaw01_WholeSums.j0 k a0 a1 t101 t102 t103 true) = some r := by rw [if_pos rfl] at H; exact H
              clear H
              have H := H1
              clear H1
              have H' := Aside0.mk H
              clear H
              go_wp2
              go_meet
              case rel => exact ⟨_, (true), (by first | rfl | (simp; done) | (simp [*]; done)), H', ⟨by first | omega | exact Nat.le_refl _⟩, ⟨by repeat (first | (with_reducible first | exact HB.out | apply below_alloc | apply pw_below_drewN | apply below_drew1) | exact HB.out)⟩⟩
            · replace c22 := Bool.eq_false_iff.mpr c22
              subst c22
              have H1 : (drachmlaw01_WholeSums.j0 k a0 a1 t101 t102 t103 t113) = some r := by rw [if_neg (show ¬ (false = true) by decide)] at H; exact H
              clear H
              have H := H1
              clear H1
              have H' := Aside0.mk H
              clear H
              go_wp2
              go_meet
              case rel => exact ⟨_, (t113), (by first | rfl | (simp; done) | (simp [*]; done)), H', ⟨by first | omega | exact Nat.le_refl _⟩, ⟨by repeat (first | (with_reducible first | exact HB.out | apply below_alloc | apply pw_below_drewN | apply below_drew1) | exact HB.out)⟩⟩
        · rw [if_neg c20] at H
          have c20b0 : (t106 == t108) = false := beq_eq_false_iff_ne.mpr c20
          have c20b1 : (t106 != t108) = true := bne_iff_ne.mpr c20
          have H' := Aside0.mk H
          clear H
          go_wp2
          go_meet
          case rel => exact ⟨_, (true), (by first | rfl | (simp; done) | (simp [*]; done)), H', ⟨by first | omega | exact Nat.le_refl _⟩, ⟨by repeat (first | (with_reducible first | exact HB.out | apply below_alloc | apply pw_below_drewN | apply below_drew1) | exact HB.out)⟩⟩
    · rw [if_neg c18] at H
      have c18b0 : (t102 == t104) = false := beq_eq_false_iff_ne.mpr c18
      have c18b1 : (t102 != t104) = true := bne_iff_ne.mpr c18
      (first | rw [c18b0] | (simp only [i64_w, i32_w]; rw [c18b0]) | skip)
      have H' := Aside0.mk H
      clear H
      go_wp2
      go_meet
      case rel => exact ⟨_, (true), (by first | rfl | (simp; done) | (simp [*]; done)), H', ⟨by first | omega | exact Nat.le_refl _⟩, ⟨by repeat (first | (with_reducible first | exact HB.out | apply below_alloc | apply pw_below_drewN | apply below_drew1) | exact HB.out)⟩⟩
  case rest =>
    clear HC10
    try clear c1
    try clear c2
    try clear p2
    try clear c4
    try clear c10
    try clear c12
    try clear c13
    try clear c18
    try clear c18b0
    try clear c18b1
    try clear c19
    try clear c19b0
    try clear c19b1
    try clear c19b2
    try clear c20
    try clear c20b0
    try clear c20b1
    try clear c21
    try clear c21b0
    try clear c21b1
    try clear c21b2
    try clear c22
    obtain ⟨kq, x76_9, rfl, HA, HJ9, HB⟩ := hcut
    cases kq with
    | zero => exact absurd HA.out (by simp [drachmlaw01_WholeSums.j0])
    | succ kj9 =>
      have H := HA.out
      clear HA
      simp only [drachmlaw01_WholeSums.j0] at H
      by_cases c23 : x76_9 = true
      · subst c23
        have H1 : (some false) = some r := by rw [if_pos rfl] at H; exact H
        clear H
        have H := H1
        clear H1
        obtain rfl := Option.some.inj H
        go_wp2
        go_ret
        exact ⟨by first | rfl | (simp [errW_none, errW_some] <;> rfl) | (simp [*, errW_none, errW_some] <;> rfl), by repeat (first | (with_reducible first | exact HB.out | apply below_alloc | apply pw_below_drewN | apply below_drew1) | exact HB.out)⟩
      · replace c23 := Bool.eq_false_iff.mpr c23
        subst c23
        have H1 : (if t103 = true then ((whole_Add.f kj9 t102 (wrap64 (-a1))).bind fun bt114 => (if t101 = true then (if bt114.2 = true then (some (bt114.1 == a0)) else (some false)) else (some false))) else (if t101 = true then (some (t102 == 0)) else (some false))) = some r := by rw [if_neg (show ¬ (false = true) by decide)] at H; exact H
        clear H
        have H := H1
        clear H1
        by_cases c24 : t103 = true
        · subst c24
          have H1 : ((whole_Add.f kj9 t102 (wrap64 (-a1))).bind fun bt114 => (if t101 = true then (if bt114.2 = true then (some (bt114.1 == a0)) else (some false)) else (some false))) = some r := by rw [if_pos rfl] at H; exact H
          clear H
          have H := H1
          clear H1
          replace H := Option.bind_eq_some_iff.mp H
          obtain ⟨⟨t114, t115⟩, A250, H⟩ := H
          replace H : (if t101 = true then (if t115 = true then (some (t114 == a0)) else (some false)) else (some false)) = some r := H
          have A25 := Aside0.mk A250
          clear A250
          by_cases c26 : t101 = true
          · subst c26
            have H1 : (if t115 = true then (some (t114 == a0)) else (some false)) = some r := by rw [if_pos rfl] at H; exact H
            clear H
            have H := H1
            clear H1
            by_cases c27 : t115 = true
            · subst c27
              have H1 : (some (t114 == a0)) = some r := by rw [if_pos rfl] at H; exact H
              clear H
              have H := H1
              clear H1
              obtain rfl := Option.some.inj H
              go_wp2_with (first | ((with_reducible refine gate_callee (f := 12) rfl ?_); refine goesL_ (some 88) rfl rfl Try.func12 (by kernel_rfl) rfl #[.int .i64 t102, .int .i64 (wrap64 (-a1))] rfl (by (try simp only [List.map_toArray, List.map_cons, List.map_nil]); first | done | rfl | (simp only [List.length_drop, List.length_take]; rfl)) ?_; (with_reducible refine (whole_Add.calls kj9 t102 (wrap64 (-a1)) t114 true _ A25.out).mono ?_); rintro e w28 ⟨rfl, hb⟩; refine ⟨_, rfl, ?_⟩; have n0_ := Aside0.mk (below_step (by repeat (first | (with_reducible first | exact HB.out | apply below_alloc | apply pw_below_drewN | apply below_drew1) | exact HB.out)) hb); clear HB; have HB := n0_; clear n0_; (try clear hb); (try clear hb2); (try clear hk); (try clear hi)))
              go_ret
              exact ⟨by first | rfl | (simp [errW_none, errW_some] <;> rfl) | (simp [*, errW_none, errW_some] <;> rfl), by repeat (first | (with_reducible first | exact HB.out | apply below_alloc | apply pw_below_drewN | apply below_drew1) | exact HB.out)⟩
            · replace c27 := Bool.eq_false_iff.mpr c27
              subst c27
              have H1 : (some false) = some r := by rw [if_neg (show ¬ (false = true) by decide)] at H; exact H
              clear H
              have H := H1
              clear H1
              obtain rfl := Option.some.inj H
              go_wp2_with (first | ((with_reducible refine gate_callee (f := 12) rfl ?_); refine goesL_ (some 88) rfl rfl Try.func12 (by kernel_rfl) rfl #[.int .i64 t102, .int .i64 (wrap64 (-a1))] rfl (by (try simp only [List.map_toArray, List.map_cons, List.map_nil]); first | done | rfl | (simp only [List.length_drop, List.length_take]; rfl)) ?_; (with_reducible refine (whole_Add.calls kj9 t102 (wrap64 (-a1)) t114 false _ A25.out).mono ?_); rintro e w29 ⟨rfl, hb⟩; refine ⟨_, rfl, ?_⟩; have n0_ := Aside0.mk (below_step (by repeat (first | (with_reducible first | exact HB.out | apply below_alloc | apply pw_below_drewN | apply below_drew1) | exact HB.out)) hb); clear HB; have HB := n0_; clear n0_; (try clear hb); (try clear hb2); (try clear hk); (try clear hi)))
              go_ret
              exact ⟨by first | rfl | (simp [errW_none, errW_some] <;> rfl) | (simp [*, errW_none, errW_some] <;> rfl), by repeat (first | (with_reducible first | exact HB.out | apply below_alloc | apply pw_below_drewN | apply below_drew1) | exact HB.out)⟩
          · replace c26 := Bool.eq_false_iff.mpr c26
            subst c26
            have H1 : (some false) = some r := by rw [if_neg (show ¬ (false = true) by decide)] at H; exact H
            clear H
            have H := H1
            clear H1
            obtain rfl := Option.some.inj H
            go_wp2_with (first | ((with_reducible refine gate_callee (f := 12) rfl ?_); refine goesL_ (some 88) rfl rfl Try.func12 (by kernel_rfl) rfl #[.int .i64 t102, .int .i64 (wrap64 (-a1))] rfl (by (try simp only [List.map_toArray, List.map_cons, List.map_nil]); first | done | rfl | (simp only [List.length_drop, List.length_take]; rfl)) ?_; (with_reducible refine (whole_Add.calls kj9 t102 (wrap64 (-a1)) t114 t115 _ A25.out).mono ?_); rintro e w30 ⟨rfl, hb⟩; refine ⟨_, rfl, ?_⟩; have n0_ := Aside0.mk (below_step (by repeat (first | (with_reducible first | exact HB.out | apply below_alloc | apply pw_below_drewN | apply below_drew1) | exact HB.out)) hb); clear HB; have HB := n0_; clear n0_; (try clear hb); (try clear hb2); (try clear hk); (try clear hi)))
            go_ret
            exact ⟨by first | rfl | (simp [errW_none, errW_some] <;> rfl) | (simp [*, errW_none, errW_some] <;> rfl), by repeat (first | (with_reducible first | exact HB.out | apply below_alloc | apply pw_below_drewN | apply below_drew1) | exact HB.out)⟩
        · replace c24 := Bool.eq_false_iff.mpr c24
          subst c24
          have H1 : (if t101 = true then (some (t102 == 0)) else (some false)) = some r := by rw [if_neg (show ¬ (false = true) by decide)] at H; exact H
          clear H
          have H := H1
          clear H1
          by_cases c31 : t101 = true
          · subst c31
            have H1 : (some (t102 == 0)) = some r := by rw [if_pos rfl] at H; exact H
            clear H
            have H := H1
            clear H1
            obtain rfl := Option.some.inj H
            go_wp2
            go_ret
            exact ⟨by first | rfl | (simp [errW_none, errW_some] <;> rfl) | (simp [*, errW_none, errW_some] <;> rfl), by repeat (first | (with_reducible first | exact HB.out | apply below_alloc | apply pw_below_drewN | apply below_drew1) | exact HB.out)⟩
          · replace c31 := Bool.eq_false_iff.mpr c31
            subst c31
            have H1 : (some false) = some r := by rw [if_neg (show ¬ (false = true) by decide)] at H; exact H
            clear H
            have H := H1
            clear H1
            obtain rfl := Option.some.inj H
            go_wp2
            go_ret
            exact ⟨by first | rfl | (simp [errW_none, errW_some] <;> rfl) | (simp [*, errW_none, errW_some] <;> rfl), by repeat (first | (with_reducible first | exact HB.out | apply below_alloc | apply pw_below_drewN | apply below_drew1) | exact HB.out)⟩

/-- THE ONE PURE STATEMENT of drachmlaw01_WholeSums: yours. -/
def drachmlaw01_WholeSums.Pure : Prop := ∀ (a0 : Int) (a1 : Int), (Lit.int .i64 a0).wf = true → (Lit.int .i64 a1).wf = true → ∃ k, drachmlaw01_WholeSums.f k a0 a1 = some true
theorem drachmlaw01_WholeSums.walk (P : drachmlaw01_WholeSums.Pure) (a0 : Int) (a1 : Int) (w : World) (w0 : (Lit.int .i64 a0).wf = true) (w1 : (Lit.int .i64 a1).wf = true) :
    Calls Try.prog 4 #[.int .i64 a0, .int .i64 a1] w fun e w' => e = .returned (.bool true) ∧ Below w.heap.size w w' := by
  obtain ⟨k, h⟩ := P a0 a1 w0 w1
  refine (drachmlaw01_WholeSums.calls k a0 a1 true w h).mono ?_
  rintro e w' ⟨rfl, hd⟩
  exact ⟨rfl, hd⟩

end Go.Proofs.Ytbfajaeghiodnaa.PWholeSums
