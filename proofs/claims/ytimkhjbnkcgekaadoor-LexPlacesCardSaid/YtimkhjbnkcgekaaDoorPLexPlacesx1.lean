/- Printed by a program of this session (wip/tools/prt.py) out of the translation: plain functions, and that the calls come to just them. No conditions beyond those that stand in each theorem. -/
import Derived.Test.YtimkhjbnkcgekaaDoorGlob
import Derived.Test.YtimkhjbnkcgekaaDoorPLexPlacesx0
namespace Go.Proofs.YtimkhjbnkcgekaaDoor.PLexPlaces
open Go.Proofs.YtimkhjbnkcgekaaDoor.Sq Go.RowKit Go.Proofs.YtimkhjbnkcgekaaDoorW.PrintWords Go.Proofs.YtimkhjbnkcgekaaDoorW.PrintLast Go.Proofs.YtimkhjbnkcgekaaDoorW.PrintMore Go.Proofs.YtimkhjbnkcgekaaDoor.PB Go.Proofs.YtimkhjbnkcgekaaDoor.PC Go.Proofs.YtimkhjbnkcgekaaDoor.PQ
attribute [local go_sem] max2_int min2_int max_two min_two max_three min_three max_four min_four   -- for this text's walks alone
set_option linter.unusedVariables false
set_option linter.unusedSimpArgs false

/-! ### drachmlaw08_LexPlaces: function 4 -/
def drachmlaw08_LexPlaces.l0 : Nat → ByteArray → Bool → Int → List (S31) → Int → Option (Bool)
 | 0, _, _, _, _, _ => none
 | k + 1, x1, x5, x7, x8, x9 => if x9 < (x8.length : Int) then (if 0 ≤ x9 then (if ((rd_T31 x8 x9).f0) = 9 then (if ((rd_T31 x8 x9).f1) = x7 then (if (wrap64 ((((rd_T31 x8 x9).f2).size : Int) + 2)) = 0 then (none) else (if (wrap64 (x7 + (wrap64 ((((rd_T31 x8 x9).f2).size : Int) + 2)))) > (x1.size : Int) then (none) else (if x9 > 0 then (if 0 ≤ (wrap64 (x9 - 1)) then (if (wrap64 (x9 - 1)) < (x8.length : Int) then (if ((rd_T31 x8 x9).f0) = ((rd_T31 x8 (wrap64 (x9 - 1))).f0) then (if ((rd_T31 x8 x9).f0) ≤ 2 then (none) else (if ((rd_T31 x8 x9).f0) = 2 then (drachmlaw08_LexPlaces.l0 k x1 x5 (wrap64 (x7 + (wrap64 ((((rd_T31 x8 x9).f2).size : Int) + 2)))) x8 (wrap64 (x9 + 1))) else (if ((rd_T31 x8 x9).f3) = 0 then (drachmlaw08_LexPlaces.l0 k x1 x5 (wrap64 (x7 + (wrap64 ((((rd_T31 x8 x9).f2).size : Int) + 2)))) x8 (wrap64 (x9 + 1))) else (none)))) else (if ((rd_T31 x8 x9).f0) = 2 then (drachmlaw08_LexPlaces.l0 k x1 x5 (wrap64 (x7 + (wrap64 ((((rd_T31 x8 x9).f2).size : Int) + 2)))) x8 (wrap64 (x9 + 1))) else (if ((rd_T31 x8 x9).f3) = 0 then (drachmlaw08_LexPlaces.l0 k x1 x5 (wrap64 (x7 + (wrap64 ((((rd_T31 x8 x9).f2).size : Int) + 2)))) x8 (wrap64 (x9 + 1))) else (none)))) else (none)) else (none)) else (if ((rd_T31 x8 x9).f0) = 2 then (drachmlaw08_LexPlaces.l0 k x1 x5 (wrap64 (x7 + (wrap64 ((((rd_T31 x8 x9).f2).size : Int) + 2)))) x8 (wrap64 (x9 + 1))) else (if ((rd_T31 x8 x9).f3) = 0 then (drachmlaw08_LexPlaces.l0 k x1 x5 (wrap64 (x7 + (wrap64 ((((rd_T31 x8 x9).f2).size : Int) + 2)))) x8 (wrap64 (x9 + 1))) else (none)))))) else (none)) else (if ((rd_T31 x8 x9).f1) = x7 then (if (((rd_T31 x8 x9).f2).size : Int) = 0 then (none) else (if (wrap64 (x7 + (((rd_T31 x8 x9).f2).size : Int))) > (x1.size : Int) then (none) else (if x9 > 0 then (if 0 ≤ (wrap64 (x9 - 1)) then (if (wrap64 (x9 - 1)) < (x8.length : Int) then (if ((rd_T31 x8 x9).f0) = ((rd_T31 x8 (wrap64 (x9 - 1))).f0) then (if ((rd_T31 x8 x9).f0) ≤ 2 then (none) else (if ((rd_T31 x8 x9).f0) = 2 then (drachmlaw08_LexPlaces.l0 k x1 x5 (wrap64 (x7 + (((rd_T31 x8 x9).f2).size : Int))) x8 (wrap64 (x9 + 1))) else (if ((rd_T31 x8 x9).f3) = 0 then (drachmlaw08_LexPlaces.l0 k x1 x5 (wrap64 (x7 + (((rd_T31 x8 x9).f2).size : Int))) x8 (wrap64 (x9 + 1))) else (none)))) else (if ((rd_T31 x8 x9).f0) = 2 then (drachmlaw08_LexPlaces.l0 k x1 x5 (wrap64 (x7 + (((rd_T31 x8 x9).f2).size : Int))) x8 (wrap64 (x9 + 1))) else (if ((rd_T31 x8 x9).f3) = 0 then (drachmlaw08_LexPlaces.l0 k x1 x5 (wrap64 (x7 + (((rd_T31 x8 x9).f2).size : Int))) x8 (wrap64 (x9 + 1))) else (none)))) else (none)) else (none)) else (if ((rd_T31 x8 x9).f0) = 2 then (drachmlaw08_LexPlaces.l0 k x1 x5 (wrap64 (x7 + (((rd_T31 x8 x9).f2).size : Int))) x8 (wrap64 (x9 + 1))) else (if ((rd_T31 x8 x9).f3) = 0 then (drachmlaw08_LexPlaces.l0 k x1 x5 (wrap64 (x7 + (((rd_T31 x8 x9).f2).size : Int))) x8 (wrap64 (x9 + 1))) else (none)))))) else (none))) else (none)) else (if x5 = true then (some (decide (x7 ≤ (x1.size : Int)))) else (none))
def drachmlaw08_LexPlaces.f (k : Nat) (a0 : Int) (a1 : ByteArray) : Option (Bool) := (drachmlaw08_awake.f).bind fun t101 => ((drachmlaw08_rest.f a0 5).bind fun t102 => ((drachmlaw08_short.f a1 120).bind fun t103 => ((drachmlaw08_each.f (wrap64 (1 + t102)) t103).bind fun t104 => (drachmlaw08_LexPlaces.l0 k t103 t101 0 t104 0))))
theorem drachmlaw08_LexPlaces.mono_l : ∀ k, (∀ y0 y1 y2 y3 y4, LeO (drachmlaw08_LexPlaces.l0 k y0 y1 y2 y3 y4) (drachmlaw08_LexPlaces.l0 (k + 1) y0 y1 y2 y3 y4))
 | 0 => fun _ _ _ _ _ r h => by simp [drachmlaw08_LexPlaces.l0] at h
 | k + 1 => by
  have ih0 := drachmlaw08_LexPlaces.mono_l k
  ·intro y0 y1 y2 y3 y4
   unfold drachmlaw08_LexPlaces.l0
   repeat' first
   | (with_reducible exact ih0 _ _ _ _ _)
   | (with_reducible exact LeO.refl _)
   | (with_reducible exact LeO.none _)
   | (with_reducible refine LeO.ite ?_ ?_)
   | (with_reducible refine LeO.bind ?_ (fun _ => ?_))
   | exact ih0 _ _ _ _ _
   | exact LeO.none _
   | refine LeO.ite ?_ ?_
   | refine LeO.bind ?_ (fun _ => ?_)
theorem drachmlaw08_LexPlaces.mono : ∀ a0 a1 k, LeO (drachmlaw08_LexPlaces.f k a0 a1) (drachmlaw08_LexPlaces.f (k + 1) a0 a1) := by
 intro a0 a1 k
 have ih0 := drachmlaw08_LexPlaces.mono_l k
 unfold drachmlaw08_LexPlaces.f
 repeat' first
   | (with_reducible exact ih0 _ _ _ _ _)
   | (with_reducible exact LeO.refl _)
   | (with_reducible exact LeO.none _)
   | (with_reducible refine LeO.ite ?_ ?_)
   | (with_reducible refine LeO.bind ?_ (fun _ => ?_))
   | exact ih0 _ _ _ _ _
   | exact LeO.none _
   | refine LeO.ite ?_ ?_
   | refine LeO.bind ?_ (fun _ => ?_)
set_option maxHeartbeats 8000000 in
set_option maxRecDepth 100000 in
theorem drachmlaw08_LexPlaces.calls (k : Nat) (a0 : Int) (a1 : ByteArray) (r : Bool) (w : World) (hG : Glob [0, 2] w) (h : drachmlaw08_LexPlaces.f k a0 a1 = some r) :
  Calls Tryd.prog 4 #[.int .i64 a0, .string a1] w fun e w' => e = .returned (.bool r) ∧ Below w.heap.size w w' := by
 have HB := Aside0.mk (Below.refl w.heap.size w)
 have H : ((drachmlaw08_awake.f).bind fun t101 => ((drachmlaw08_rest.f a0 5).bind fun t102 => ((drachmlaw08_short.f a1 120).bind fun t103 => ((drachmlaw08_each.f (wrap64 (1 + t102)) t103).bind fun t104 => (drachmlaw08_LexPlaces.l0 k t103 t101 0 t104 0))))) = some r := h
 clear h
 replace H := Option.bind_eq_some_iff.mp H
 obtain ⟨t101, A30, H⟩ := H
 replace H : ((drachmlaw08_rest.f a0 5).bind fun t102 => ((drachmlaw08_short.f a1 120).bind fun t103 => ((drachmlaw08_each.f (wrap64 (1 + t102)) t103).bind fun t104 => (drachmlaw08_LexPlaces.l0 k t103 t101 0 t104 0)))) = some r := H
 have A3 := Aside0.mk A30
 clear A30
 replace H := Option.bind_eq_some_iff.mp H
 obtain ⟨t102, A40, H⟩ := H
 replace H : ((drachmlaw08_short.f a1 120).bind fun t103 => ((drachmlaw08_each.f (wrap64 (1 + t102)) t103).bind fun t104 => (drachmlaw08_LexPlaces.l0 k t103 t101 0 t104 0))) = some r := H
 have A4 := Aside0.mk A40
 clear A40
 replace H := Option.bind_eq_some_iff.mp H
 obtain ⟨t103, A50, H⟩ := H
 replace H : ((drachmlaw08_each.f (wrap64 (1 + t102)) t103).bind fun t104 => (drachmlaw08_LexPlaces.l0 k t103 t101 0 t104 0)) = some r := H
 have A5 := Aside0.mk A50
 clear A50
 replace H := Option.bind_eq_some_iff.mp H
 obtain ⟨t104, A60, H⟩ := H
 replace H : (drachmlaw08_LexPlaces.l0 k t103 t101 0 t104 0) = some r := H
 have A6 := Aside0.mk A60
 clear A60
 have H' := Aside0.mk H
 clear H
 go_enter Tryd.func4, Tryd.ntmps4
 go_wp2_with (first | (go_at_call 10; (with_reducible refine (drachmlaw08_awake.calls  t101 _ (Glob.use hG (by decide) (bl HB.out)) A3.out).mono ?_); rintro e w7 ⟨rfl, hb⟩; replace HB := sb HB hb; (try clear hb); (try clear hb2); (try clear hk); (try clear hi)) | (go_at_call 12; (with_reducible refine (drachmlaw08_rest.calls a0 5 t102 _ A4.out).mono ?_); rintro e w' ⟨rfl, ⟨nd, rfl⟩⟩; (try first | exact ⟨rfl, _, World.drewN_drewN _ _ _⟩ | exact ⟨rfl, _, Eq.trans (World.drewN_drewN _ _ _) (congrArg (World.drewN _) (Nat.add_assoc _ _ _))⟩)) | (go_at_call 11; (with_reducible refine (drachmlaw08_short.calls a1 120 t103 _ A5.out).mono ?_); rintro e w' ⟨rfl, ⟨nd, rfl⟩⟩; (try first | exact ⟨rfl, _, World.drewN_drewN _ _ _⟩ | exact ⟨rfl, _, Eq.trans (World.drewN_drewN _ _ _) (congrArg (World.drewN _) (Nat.add_assoc _ _ _))⟩)) | (go_at_call 14; (with_reducible refine (drachmlaw08_each.calls (wrap64 (1 + t102)) t103 t104 _ (Glob.use hG (by decide) (bl HB.out)) A6.out).mono ?_); rintro e w8 ⟨v105, rfl, ho0, hb⟩; have HO106 := Aside0.mk (Kd.R_lower ho0 (below_size (bl HB.out))); replace HB := sb HB hb; (try clear hb); (try clear hb2); (try clear hk); (try clear hi); (try clear ho0)))
 repeat (go_quiet (first | (go_at_call 10; (with_reducible refine (drachmlaw08_awake.calls  t101 _ (Glob.use hG (by decide) (bl HB.out)) A3.out).mono ?_); rintro e w7 ⟨rfl, hb⟩; replace HB := sb HB hb; (try clear hb); (try clear hb2); (try clear hk); (try clear hi)) | (go_at_call 12; (with_reducible refine (drachmlaw08_rest.calls a0 5 t102 _ A4.out).mono ?_); rintro e w' ⟨rfl, ⟨nd, rfl⟩⟩; (try first | exact ⟨rfl, _, World.drewN_drewN _ _ _⟩ | exact ⟨rfl, _, Eq.trans (World.drewN_drewN _ _ _) (congrArg (World.drewN _) (Nat.add_assoc _ _ _))⟩)) | (go_at_call 11; (with_reducible refine (drachmlaw08_short.calls a1 120 t103 _ A5.out).mono ?_); rintro e w' ⟨rfl, ⟨nd, rfl⟩⟩; (try first | exact ⟨rfl, _, World.drewN_drewN _ _ _⟩ | exact ⟨rfl, _, Eq.trans (World.drewN_drewN _ _ _) (congrArg (World.drewN _) (Nat.add_assoc _ _ _))⟩)) | (go_at_call 14; (with_reducible refine (drachmlaw08_each.calls (wrap64 (1 + t102)) t103 t104 _ (Glob.use hG (by decide) (bl HB.out)) A6.out).mono ?_); rintro e w8 ⟨v105, rfl, ho0, hb⟩; have HO106 := Aside0.mk (Kd.R_lower ho0 (below_size (bl HB.out))); replace HB := sb HB hb; (try clear hb); (try clear hb2); (try clear hk); (try clear hi); (try clear ho0))); try go_wp2_with (first | (go_at_call 10; (with_reducible refine (drachmlaw08_awake.calls  t101 _ (Glob.use hG (by decide) (bl HB.out)) A3.out).mono ?_); rintro e w7 ⟨rfl, hb⟩; replace HB := sb HB hb; (try clear hb); (try clear hb2); (try clear hk); (try clear hi)) | (go_at_call 12; (with_reducible refine (drachmlaw08_rest.calls a0 5 t102 _ A4.out).mono ?_); rintro e w' ⟨rfl, ⟨nd, rfl⟩⟩; (try first | exact ⟨rfl, _, World.drewN_drewN _ _ _⟩ | exact ⟨rfl, _, Eq.trans (World.drewN_drewN _ _ _) (congrArg (World.drewN _) (Nat.add_assoc _ _ _))⟩)) | (go_at_call 11; (with_reducible refine (drachmlaw08_short.calls a1 120 t103 _ A5.out).mono ?_); rintro e w' ⟨rfl, ⟨nd, rfl⟩⟩; (try first | exact ⟨rfl, _, World.drewN_drewN _ _ _⟩ | exact ⟨rfl, _, Eq.trans (World.drewN_drewN _ _ _) (congrArg (World.drewN _) (Nat.add_assoc _ _ _))⟩)) | (go_at_call 14; (with_reducible refine (drachmlaw08_each.calls (wrap64 (1 + t102)) t103 t104 _ (Glob.use hG (by decide) (bl HB.out)) A6.out).mono ?_); rintro e w8 ⟨v105, rfl, ho0, hb⟩; have HO106 := Aside0.mk (Kd.R_lower ho0 (below_size (bl HB.out))); replace HB := sb HB hb; (try clear hb); (try clear hb2); (try clear hk); (try clear hi); (try clear ho0))))
 go_loopg [7, 9] k (fun kq v7 v9 w' => ∃ (x7_1 : Int) (x9_1 : Int), v7 = .int .i64 x7_1 ∧ v9 = .int .i64 x9_1 ∧ Aside0 (drachmlaw08_LexPlaces.l0 kq t103 t101 x7_1 t104 x9_1 = some r) ∧ Aside0 (kq ≤ k) ∧ Aside0 (Kd.R k31 31 w' w.heap.size (fun _ => True) v105 t104) ∧ Aside0 (Below w.heap.size w w'))
 case atStart => exact ⟨(0), (0), (by first | rfl | (simp; done) | (simp [*]; done)), (by first | rfl | (simp; done) | (simp [*]; done)), H', ⟨Nat.le_refl _⟩, ⟨by (with_reducible repeat (first | apply Kd.R_alloc | apply Kd.R_drewN | apply Kd.R_drew)); exact HO106.out⟩, ⟨bl HB.out⟩⟩
 case round =>
  clear H'
  try clear p2
  try clear c4
  try clear p6
  obtain ⟨x7_1, x9_1, rfl, rfl, HA, HK1, HO_8, HB⟩ := hrel
  cases gk with
  | zero => exact absurd HA.out (by simp [drachmlaw08_LexPlaces.l0])
  | succ k1 =>
   have H := HA.out
   clear HA
   simp only [drachmlaw08_LexPlaces.l0] at H
   by_cases c9 : x9_1 < (t104.length : Int)
   ·rw [if_pos c9] at H
    have c9b0 : decide (x9_1 < (t104.length : Int)) = true := decide_eq_true c9
    clear c9
    by_cases c10 : 0 ≤ x9_1
    ·rw [if_pos c10] at H
     have c10b0 : decide (0 ≤ x9_1) = true := decide_eq_true c10
     clear c10
     by_cases c11 : ((rd_T31 t104 x9_1).f0) = 9
     ·rw [if_pos c11] at H
      have c11b0 : (((rd_T31 t104 x9_1).f0) == 9) = true := beq_iff_eq.mpr c11
      have c11b1 : (((rd_T31 t104 x9_1).f0) != 9) = false := bne_eq_false_iff_eq.mpr c11
      clear c11
      by_cases c12 : ((rd_T31 t104 x9_1).f1) = x7_1
      ·rw [if_pos c12] at H
       have c12b0 : (((rd_T31 t104 x9_1).f1) == x7_1) = true := beq_iff_eq.mpr c12
       have c12b1 : (((rd_T31 t104 x9_1).f1) != x7_1) = false := bne_eq_false_iff_eq.mpr c12
       clear c12
       by_cases c13 : (wrap64 ((((rd_T31 t104 x9_1).f2).size : Int) + 2)) = 0
       ·rw [if_pos c13] at H
        exact absurd H (by simp)
       ·rw [if_neg c13] at H
        have c13b0 : ((wrap64 ((((rd_T31 t104 x9_1).f2).size : Int) + 2)) == 0) = false := beq_eq_false_iff_ne.mpr c13
        have c13b1 : ((wrap64 ((((rd_T31 t104 x9_1).f2).size : Int) + 2)) != 0) = true := bne_iff_ne.mpr c13
        by_cases c14 : (wrap64 (x7_1 + (wrap64 ((((rd_T31 t104 x9_1).f2).size : Int) + 2)))) > (t103.size : Int)
        ·rw [if_pos c14] at H
         exact absurd H (by simp)
        ·rw [if_neg c14] at H
         have c14b0 : decide ((t103.size : Int) < (wrap64 (x7_1 + (wrap64 ((((rd_T31 t104 x9_1).f2).size : Int) + 2))))) = false := decide_eq_false c14
         clear c14
         by_cases c15 : x9_1 > 0
         ·rw [if_pos c15] at H
          have c15b0 : decide (0 < x9_1) = true := decide_eq_true c15
          clear c15
          obtain ⟨ji16, hji16⟩ : ∃ j_ : Int, (wrap64 (x9_1 - 1)) = j_ := ⟨_, rfl⟩
          replace H : (if 0 ≤ (ji16) then (if (ji16) < (t104.length : Int) then (if ((rd_T31 t104 x9_1).f0) = ((rd_T31 t104 (ji16)).f0) then (if ((rd_T31 t104 x9_1).f0) ≤ 2 then (none) else (if ((rd_T31 t104 x9_1).f0) = 2 then (drachmlaw08_LexPlaces.l0 k1 t103 t101 (wrap64 (x7_1 + (wrap64 ((((rd_T31 t104 x9_1).f2).size : Int) + 2)))) t104 (wrap64 (x9_1 + 1))) else (if ((rd_T31 t104 x9_1).f3) = 0 then (drachmlaw08_LexPlaces.l0 k1 t103 t101 (wrap64 (x7_1 + (wrap64 ((((rd_T31 t104 x9_1).f2).size : Int) + 2)))) t104 (wrap64 (x9_1 + 1))) else (none)))) else (if ((rd_T31 t104 x9_1).f0) = 2 then (drachmlaw08_LexPlaces.l0 k1 t103 t101 (wrap64 (x7_1 + (wrap64 ((((rd_T31 t104 x9_1).f2).size : Int) + 2)))) t104 (wrap64 (x9_1 + 1))) else (if ((rd_T31 t104 x9_1).f3) = 0 then (drachmlaw08_LexPlaces.l0 k1 t103 t101 (wrap64 (x7_1 + (wrap64 ((((rd_T31 t104 x9_1).f2).size : Int) + 2)))) t104 (wrap64 (x9_1 + 1))) else (none)))) else (none)) else (none)) = some r := by first | (rw [hji16] at H; exact H) | (simp only [hji16] at H ⊢; exact H)
          have hji16w : (IntKind.i64.wrap (x9_1 - 1)) = ji16 := (i64_w _).trans hji16
          by_cases c17 : 0 ≤ (ji16)
          ·rw [if_pos c17] at H
           have c17b0 : decide (0 ≤ (ji16)) = true := decide_eq_true c17
           clear c17
           by_cases c18 : (ji16) < (t104.length : Int)
           ·rw [if_pos c18] at H
            have c18b0 : decide ((ji16) < (t104.length : Int)) = true := decide_eq_true c18
            clear c18
            by_cases c19 : ((rd_T31 t104 x9_1).f0) = ((rd_T31 t104 (ji16)).f0)
            ·rw [if_pos c19] at H
             have c19b0 : (((rd_T31 t104 x9_1).f0) == ((rd_T31 t104 (ji16)).f0)) = true := beq_iff_eq.mpr c19
             have c19b1 : (((rd_T31 t104 x9_1).f0) != ((rd_T31 t104 (ji16)).f0)) = false := bne_eq_false_iff_eq.mpr c19
             clear c19
             by_cases c20 : ((rd_T31 t104 x9_1).f0) ≤ 2
             ·rw [if_pos c20] at H
              exact absurd H (by simp)
             ·rw [if_neg c20] at H
              have c20b0 : decide (((rd_T31 t104 x9_1).f0) ≤ 2) = false := decide_eq_false c20
              clear c20
              by_cases c21 : ((rd_T31 t104 x9_1).f0) = 2
              ·rw [if_pos c21] at H
               have c21b0 : (((rd_T31 t104 x9_1).f0) == 2) = true := beq_iff_eq.mpr c21
               have c21b1 : (((rd_T31 t104 x9_1).f0) != 2) = false := bne_eq_false_iff_eq.mpr c21
               clear c21
               have H' := Aside0.mk H
               clear H
               obtain ⟨Ao22, co22, eo22⟩ := Kd.R_slice HO_8.out
               subst eo22
               have p107 : 0 ≤ (x9_1 : Int) := of_decide_eq_true (by first | (with_reducible assumption) | assumption)
               have q107 : x9_1 < (t104.length : Int) := of_decide_eq_true (by first | (with_reducible assumption) | assumption)
               obtain ⟨ad107, e107, hx107_0, hx107_1, hx107_2, hx107_3⟩ := at_T31 (Kd.R_reads' HO_8.out).2.2 x9_1 p107 q107
               cases e107
               replace p107 := eq_true p107
               replace q107 := eq_true q107
               have p108 : 0 ≤ (x9_1 : Int) := of_decide_eq_true (by first | (with_reducible assumption) | assumption)
               have q108 : x9_1 < (t104.length : Int) := of_decide_eq_true (by first | (with_reducible assumption) | assumption)
               obtain ⟨ad108, e108, hx108_0, hx108_1, hx108_2, hx108_3⟩ := at_T31 (Kd.R_reads' HO_8.out).2.2 x9_1 p108 q108
               obtain rfl : ad107 = ad108 := (by injection e108)
               replace p108 := eq_true p108
               replace q108 := eq_true q108
               have p109 : 0 ≤ (x9_1 : Int) := of_decide_eq_true (by first | (with_reducible assumption) | assumption)
               have q109 : x9_1 < (t104.length : Int) := of_decide_eq_true (by first | (with_reducible assumption) | assumption)
               obtain ⟨ad109, e109, hx109_0, hx109_1, hx109_2, hx109_3⟩ := at_T31 (Kd.R_reads' HO_8.out).2.2 x9_1 p109 q109
               obtain rfl : ad107 = ad109 := (by injection e109)
               replace p109 := eq_true p109
               replace q109 := eq_true q109
               have p110 : 0 ≤ (x9_1 : Int) := of_decide_eq_true (by first | (with_reducible assumption) | assumption)
               have q110 : x9_1 < (t104.length : Int) := of_decide_eq_true (by first | (with_reducible assumption) | assumption)
               obtain ⟨ad110, e110, hx110_0, hx110_1, hx110_2, hx110_3⟩ := at_T31 (Kd.R_reads' HO_8.out).2.2 x9_1 p110 q110
               obtain rfl : ad107 = ad110 := (by injection e110)
               replace p110 := eq_true p110
               replace q110 := eq_true q110
               have p111 : 0 ≤ ((ji16) : Int) := of_decide_eq_true (by first | (with_reducible assumption) | assumption)
               have q111 : (ji16) < (t104.length : Int) := of_decide_eq_true (by first | (with_reducible assumption) | assumption)
               obtain ⟨ad111, e111, hx111_0, hx111_1, hx111_2, hx111_3⟩ := at_T31 (Kd.R_reads' HO_8.out).2.2 (ji16) p111 q111
               obtain rfl : ad107 = ad111 := (by injection e111)
               replace p111 := eq_true p111
               replace q111 := eq_true q111
               have p112 : 0 ≤ (x9_1 : Int) := of_decide_eq_true (by first | (with_reducible assumption) | assumption)
               have q112 : x9_1 < (t104.length : Int) := of_decide_eq_true (by first | (with_reducible assumption) | assumption)
               obtain ⟨ad112, e112, hx112_0, hx112_1, hx112_2, hx112_3⟩ := at_T31 (Kd.R_reads' HO_8.out).2.2 x9_1 p112 q112
               obtain rfl : ad107 = ad112 := (by injection e112)
               replace p112 := eq_true p112
               replace q112 := eq_true q112
               have p113 : 0 ≤ (x9_1 : Int) := of_decide_eq_true (by first | (with_reducible assumption) | assumption)
               have q113 : x9_1 < (t104.length : Int) := of_decide_eq_true (by first | (with_reducible assumption) | assumption)
               obtain ⟨ad113, e113, hx113_0, hx113_1, hx113_2, hx113_3⟩ := at_T31 (Kd.R_reads' HO_8.out).2.2 x9_1 p113 q113
               obtain rfl : ad107 = ad113 := (by injection e113)
               replace p113 := eq_true p113
               replace q113 := eq_true q113
               go_wp2
               repeat (go_quiet (fail); try go_wp2)
               go_roundg k1
               case measure => have := HK1.out; omega
               case rel => exact ⟨(wrap64 (x7_1 + (wrap64 ((((rd_T31 t104 x9_1).f2).size : Int) + 2)))), (wrap64 (x9_1 + 1)), (by first | rfl | (simp; done) | (simp [*]; done)), (by first | rfl | (simp; done) | (simp [*]; done)), H', ⟨by have := HK1.out; omega⟩, ⟨by (with_reducible repeat (first | apply Kd.R_alloc | apply Kd.R_drewN | apply Kd.R_drew)); exact HO_8.out⟩, ⟨bl HB.out⟩⟩
              ·rw [if_neg c21] at H
               have c21b0 : (((rd_T31 t104 x9_1).f0) == 2) = false := beq_eq_false_iff_ne.mpr c21
               have c21b1 : (((rd_T31 t104 x9_1).f0) != 2) = true := bne_iff_ne.mpr c21
               by_cases c23 : ((rd_T31 t104 x9_1).f3) = 0
               ·rw [if_pos c23] at H
                have c23b0 : (((rd_T31 t104 x9_1).f3) == 0) = true := beq_iff_eq.mpr c23
                have c23b1 : (((rd_T31 t104 x9_1).f3) != 0) = false := bne_eq_false_iff_eq.mpr c23
                clear c23
                have H' := Aside0.mk H
                clear H
                obtain ⟨Ao24, co24, eo24⟩ := Kd.R_slice HO_8.out
                subst eo24
                have p107 : 0 ≤ (x9_1 : Int) := of_decide_eq_true (by first | (with_reducible assumption) | assumption)
                have q107 : x9_1 < (t104.length : Int) := of_decide_eq_true (by first | (with_reducible assumption) | assumption)
                obtain ⟨ad107, e107, hx107_0, hx107_1, hx107_2, hx107_3⟩ := at_T31 (Kd.R_reads' HO_8.out).2.2 x9_1 p107 q107
                cases e107
                replace p107 := eq_true p107
                replace q107 := eq_true q107
                have p108 : 0 ≤ (x9_1 : Int) := of_decide_eq_true (by first | (with_reducible assumption) | assumption)
                have q108 : x9_1 < (t104.length : Int) := of_decide_eq_true (by first | (with_reducible assumption) | assumption)
                obtain ⟨ad108, e108, hx108_0, hx108_1, hx108_2, hx108_3⟩ := at_T31 (Kd.R_reads' HO_8.out).2.2 x9_1 p108 q108
                obtain rfl : ad107 = ad108 := (by injection e108)
                replace p108 := eq_true p108
                replace q108 := eq_true q108
                have p109 : 0 ≤ (x9_1 : Int) := of_decide_eq_true (by first | (with_reducible assumption) | assumption)
                have q109 : x9_1 < (t104.length : Int) := of_decide_eq_true (by first | (with_reducible assumption) | assumption)
                obtain ⟨ad109, e109, hx109_0, hx109_1, hx109_2, hx109_3⟩ := at_T31 (Kd.R_reads' HO_8.out).2.2 x9_1 p109 q109
                obtain rfl : ad107 = ad109 := (by injection e109)
                replace p109 := eq_true p109
                replace q109 := eq_true q109
                have p110 : 0 ≤ (x9_1 : Int) := of_decide_eq_true (by first | (with_reducible assumption) | assumption)
                have q110 : x9_1 < (t104.length : Int) := of_decide_eq_true (by first | (with_reducible assumption) | assumption)
                obtain ⟨ad110, e110, hx110_0, hx110_1, hx110_2, hx110_3⟩ := at_T31 (Kd.R_reads' HO_8.out).2.2 x9_1 p110 q110
                obtain rfl : ad107 = ad110 := (by injection e110)
                replace p110 := eq_true p110
                replace q110 := eq_true q110
                have p111 : 0 ≤ ((ji16) : Int) := of_decide_eq_true (by first | (with_reducible assumption) | assumption)
                have q111 : (ji16) < (t104.length : Int) := of_decide_eq_true (by first | (with_reducible assumption) | assumption)
                obtain ⟨ad111, e111, hx111_0, hx111_1, hx111_2, hx111_3⟩ := at_T31 (Kd.R_reads' HO_8.out).2.2 (ji16) p111 q111
                obtain rfl : ad107 = ad111 := (by injection e111)
                replace p111 := eq_true p111
                replace q111 := eq_true q111
                have p112 : 0 ≤ (x9_1 : Int) := of_decide_eq_true (by first | (with_reducible assumption) | assumption)
                have q112 : x9_1 < (t104.length : Int) := of_decide_eq_true (by first | (with_reducible assumption) | assumption)
                obtain ⟨ad112, e112, hx112_0, hx112_1, hx112_2, hx112_3⟩ := at_T31 (Kd.R_reads' HO_8.out).2.2 x9_1 p112 q112
                obtain rfl : ad107 = ad112 := (by injection e112)
                replace p112 := eq_true p112
                replace q112 := eq_true q112
                have p113 : 0 ≤ (x9_1 : Int) := of_decide_eq_true (by first | (with_reducible assumption) | assumption)
                have q113 : x9_1 < (t104.length : Int) := of_decide_eq_true (by first | (with_reducible assumption) | assumption)
                obtain ⟨ad113, e113, hx113_0, hx113_1, hx113_2, hx113_3⟩ := at_T31 (Kd.R_reads' HO_8.out).2.2 x9_1 p113 q113
                obtain rfl : ad107 = ad113 := (by injection e113)
                replace p113 := eq_true p113
                replace q113 := eq_true q113
                have p114 : 0 ≤ (x9_1 : Int) := of_decide_eq_true (by first | (with_reducible assumption) | assumption)
                have q114 : x9_1 < (t104.length : Int) := of_decide_eq_true (by first | (with_reducible assumption) | assumption)
                obtain ⟨ad114, e114, hx114_0, hx114_1, hx114_2, hx114_3⟩ := at_T31 (Kd.R_reads' HO_8.out).2.2 x9_1 p114 q114
                obtain rfl : ad107 = ad114 := (by injection e114)
                replace p114 := eq_true p114
                replace q114 := eq_true q114
                go_wp2
                repeat (go_quiet (fail); try go_wp2)
                go_roundg k1
                case measure => have := HK1.out; omega
                case rel => exact ⟨(wrap64 (x7_1 + (wrap64 ((((rd_T31 t104 x9_1).f2).size : Int) + 2)))), (wrap64 (x9_1 + 1)), (by first | rfl | (simp; done) | (simp [*]; done)), (by first | rfl | (simp; done) | (simp [*]; done)), H', ⟨by have := HK1.out; omega⟩, ⟨by (with_reducible repeat (first | apply Kd.R_alloc | apply Kd.R_drewN | apply Kd.R_drew)); exact HO_8.out⟩, ⟨bl HB.out⟩⟩
               ·rw [if_neg c23] at H
                exact absurd H (by simp)
            ·rw [if_neg c19] at H
             have c19b0 : (((rd_T31 t104 x9_1).f0) == ((rd_T31 t104 (ji16)).f0)) = false := beq_eq_false_iff_ne.mpr c19
             have c19b1 : (((rd_T31 t104 x9_1).f0) != ((rd_T31 t104 (ji16)).f0)) = true := bne_iff_ne.mpr c19
             by_cases c25 : ((rd_T31 t104 x9_1).f0) = 2
             ·rw [if_pos c25] at H
              have c25b0 : (((rd_T31 t104 x9_1).f0) == 2) = true := beq_iff_eq.mpr c25
              have c25b1 : (((rd_T31 t104 x9_1).f0) != 2) = false := bne_eq_false_iff_eq.mpr c25
              clear c25
              have H' := Aside0.mk H
              clear H
              obtain ⟨Ao26, co26, eo26⟩ := Kd.R_slice HO_8.out
              subst eo26
              have p107 : 0 ≤ (x9_1 : Int) := of_decide_eq_true (by first | (with_reducible assumption) | assumption)
              have q107 : x9_1 < (t104.length : Int) := of_decide_eq_true (by first | (with_reducible assumption) | assumption)
              obtain ⟨ad107, e107, hx107_0, hx107_1, hx107_2, hx107_3⟩ := at_T31 (Kd.R_reads' HO_8.out).2.2 x9_1 p107 q107
              cases e107
              replace p107 := eq_true p107
              replace q107 := eq_true q107
              have p108 : 0 ≤ (x9_1 : Int) := of_decide_eq_true (by first | (with_reducible assumption) | assumption)
              have q108 : x9_1 < (t104.length : Int) := of_decide_eq_true (by first | (with_reducible assumption) | assumption)
              obtain ⟨ad108, e108, hx108_0, hx108_1, hx108_2, hx108_3⟩ := at_T31 (Kd.R_reads' HO_8.out).2.2 x9_1 p108 q108
              obtain rfl : ad107 = ad108 := (by injection e108)
              replace p108 := eq_true p108
              replace q108 := eq_true q108
              have p109 : 0 ≤ (x9_1 : Int) := of_decide_eq_true (by first | (with_reducible assumption) | assumption)
              have q109 : x9_1 < (t104.length : Int) := of_decide_eq_true (by first | (with_reducible assumption) | assumption)
              obtain ⟨ad109, e109, hx109_0, hx109_1, hx109_2, hx109_3⟩ := at_T31 (Kd.R_reads' HO_8.out).2.2 x9_1 p109 q109
              obtain rfl : ad107 = ad109 := (by injection e109)
              replace p109 := eq_true p109
              replace q109 := eq_true q109
              have p110 : 0 ≤ (x9_1 : Int) := of_decide_eq_true (by first | (with_reducible assumption) | assumption)
              have q110 : x9_1 < (t104.length : Int) := of_decide_eq_true (by first | (with_reducible assumption) | assumption)
              obtain ⟨ad110, e110, hx110_0, hx110_1, hx110_2, hx110_3⟩ := at_T31 (Kd.R_reads' HO_8.out).2.2 x9_1 p110 q110
              obtain rfl : ad107 = ad110 := (by injection e110)
              replace p110 := eq_true p110
              replace q110 := eq_true q110
              have p111 : 0 ≤ ((ji16) : Int) := of_decide_eq_true (by first | (with_reducible assumption) | assumption)
              have q111 : (ji16) < (t104.length : Int) := of_decide_eq_true (by first | (with_reducible assumption) | assumption)
              obtain ⟨ad111, e111, hx111_0, hx111_1, hx111_2, hx111_3⟩ := at_T31 (Kd.R_reads' HO_8.out).2.2 (ji16) p111 q111
              obtain rfl : ad107 = ad111 := (by injection e111)
              replace p111 := eq_true p111
              replace q111 := eq_true q111
              have p115 : 0 ≤ (x9_1 : Int) := of_decide_eq_true (by first | (with_reducible assumption) | assumption)
              have q115 : x9_1 < (t104.length : Int) := of_decide_eq_true (by first | (with_reducible assumption) | assumption)
              obtain ⟨ad115, e115, hx115_0, hx115_1, hx115_2, hx115_3⟩ := at_T31 (Kd.R_reads' HO_8.out).2.2 x9_1 p115 q115
              obtain rfl : ad107 = ad115 := (by injection e115)
              replace p115 := eq_true p115
              replace q115 := eq_true q115
              go_wp2
              repeat (go_quiet (fail); try go_wp2)
              go_roundg k1
              case measure => have := HK1.out; omega
              case rel => exact ⟨(wrap64 (x7_1 + (wrap64 ((((rd_T31 t104 x9_1).f2).size : Int) + 2)))), (wrap64 (x9_1 + 1)), (by first | rfl | (simp; done) | (simp [*]; done)), (by first | rfl | (simp; done) | (simp [*]; done)), H', ⟨by have := HK1.out; omega⟩, ⟨by (with_reducible repeat (first | apply Kd.R_alloc | apply Kd.R_drewN | apply Kd.R_drew)); exact HO_8.out⟩, ⟨bl HB.out⟩⟩
             ·rw [if_neg c25] at H
              have c25b0 : (((rd_T31 t104 x9_1).f0) == 2) = false := beq_eq_false_iff_ne.mpr c25
              have c25b1 : (((rd_T31 t104 x9_1).f0) != 2) = true := bne_iff_ne.mpr c25
              by_cases c27 : ((rd_T31 t104 x9_1).f3) = 0
              ·rw [if_pos c27] at H
               have c27b0 : (((rd_T31 t104 x9_1).f3) == 0) = true := beq_iff_eq.mpr c27
               have c27b1 : (((rd_T31 t104 x9_1).f3) != 0) = false := bne_eq_false_iff_eq.mpr c27
               clear c27
               have H' := Aside0.mk H
               clear H
               obtain ⟨Ao28, co28, eo28⟩ := Kd.R_slice HO_8.out
               subst eo28
               have p107 : 0 ≤ (x9_1 : Int) := of_decide_eq_true (by first | (with_reducible assumption) | assumption)
               have q107 : x9_1 < (t104.length : Int) := of_decide_eq_true (by first | (with_reducible assumption) | assumption)
               obtain ⟨ad107, e107, hx107_0, hx107_1, hx107_2, hx107_3⟩ := at_T31 (Kd.R_reads' HO_8.out).2.2 x9_1 p107 q107
               cases e107
               replace p107 := eq_true p107
               replace q107 := eq_true q107
               have p108 : 0 ≤ (x9_1 : Int) := of_decide_eq_true (by first | (with_reducible assumption) | assumption)
               have q108 : x9_1 < (t104.length : Int) := of_decide_eq_true (by first | (with_reducible assumption) | assumption)
               obtain ⟨ad108, e108, hx108_0, hx108_1, hx108_2, hx108_3⟩ := at_T31 (Kd.R_reads' HO_8.out).2.2 x9_1 p108 q108
               obtain rfl : ad107 = ad108 := (by injection e108)
               replace p108 := eq_true p108
               replace q108 := eq_true q108
               have p109 : 0 ≤ (x9_1 : Int) := of_decide_eq_true (by first | (with_reducible assumption) | assumption)
               have q109 : x9_1 < (t104.length : Int) := of_decide_eq_true (by first | (with_reducible assumption) | assumption)
               obtain ⟨ad109, e109, hx109_0, hx109_1, hx109_2, hx109_3⟩ := at_T31 (Kd.R_reads' HO_8.out).2.2 x9_1 p109 q109
               obtain rfl : ad107 = ad109 := (by injection e109)
               replace p109 := eq_true p109
               replace q109 := eq_true q109
               have p110 : 0 ≤ (x9_1 : Int) := of_decide_eq_true (by first | (with_reducible assumption) | assumption)
               have q110 : x9_1 < (t104.length : Int) := of_decide_eq_true (by first | (with_reducible assumption) | assumption)
               obtain ⟨ad110, e110, hx110_0, hx110_1, hx110_2, hx110_3⟩ := at_T31 (Kd.R_reads' HO_8.out).2.2 x9_1 p110 q110
               obtain rfl : ad107 = ad110 := (by injection e110)
               replace p110 := eq_true p110
               replace q110 := eq_true q110
               have p111 : 0 ≤ ((ji16) : Int) := of_decide_eq_true (by first | (with_reducible assumption) | assumption)
               have q111 : (ji16) < (t104.length : Int) := of_decide_eq_true (by first | (with_reducible assumption) | assumption)
               obtain ⟨ad111, e111, hx111_0, hx111_1, hx111_2, hx111_3⟩ := at_T31 (Kd.R_reads' HO_8.out).2.2 (ji16) p111 q111
               obtain rfl : ad107 = ad111 := (by injection e111)
               replace p111 := eq_true p111
               replace q111 := eq_true q111
               have p115 : 0 ≤ (x9_1 : Int) := of_decide_eq_true (by first | (with_reducible assumption) | assumption)
               have q115 : x9_1 < (t104.length : Int) := of_decide_eq_true (by first | (with_reducible assumption) | assumption)
               obtain ⟨ad115, e115, hx115_0, hx115_1, hx115_2, hx115_3⟩ := at_T31 (Kd.R_reads' HO_8.out).2.2 x9_1 p115 q115
               obtain rfl : ad107 = ad115 := (by injection e115)
               replace p115 := eq_true p115
               replace q115 := eq_true q115
               have p116 : 0 ≤ (x9_1 : Int) := of_decide_eq_true (by first | (with_reducible assumption) | assumption)
               have q116 : x9_1 < (t104.length : Int) := of_decide_eq_true (by first | (with_reducible assumption) | assumption)
               obtain ⟨ad116, e116, hx116_0, hx116_1, hx116_2, hx116_3⟩ := at_T31 (Kd.R_reads' HO_8.out).2.2 x9_1 p116 q116
               obtain rfl : ad107 = ad116 := (by injection e116)
               replace p116 := eq_true p116
               replace q116 := eq_true q116
               go_wp2
               repeat (go_quiet (fail); try go_wp2)
               go_roundg k1
               case measure => have := HK1.out; omega
               case rel => exact ⟨(wrap64 (x7_1 + (wrap64 ((((rd_T31 t104 x9_1).f2).size : Int) + 2)))), (wrap64 (x9_1 + 1)), (by first | rfl | (simp; done) | (simp [*]; done)), (by first | rfl | (simp; done) | (simp [*]; done)), H', ⟨by have := HK1.out; omega⟩, ⟨by (with_reducible repeat (first | apply Kd.R_alloc | apply Kd.R_drewN | apply Kd.R_drew)); exact HO_8.out⟩, ⟨bl HB.out⟩⟩
              ·rw [if_neg c27] at H
               exact absurd H (by simp)
           ·rw [if_neg c18] at H
            exact absurd H (by simp)
          ·rw [if_neg c17] at H
           exact absurd H (by simp)
         ·rw [if_neg c15] at H
          have c15b0 : decide (0 < x9_1) = false := decide_eq_false c15
          clear c15
          by_cases c29 : ((rd_T31 t104 x9_1).f0) = 2
          ·rw [if_pos c29] at H
           have c29b0 : (((rd_T31 t104 x9_1).f0) == 2) = true := beq_iff_eq.mpr c29
           have c29b1 : (((rd_T31 t104 x9_1).f0) != 2) = false := bne_eq_false_iff_eq.mpr c29
           clear c29
           have H' := Aside0.mk H
           clear H
           obtain ⟨Ao30, co30, eo30⟩ := Kd.R_slice HO_8.out
           subst eo30
           have p107 : 0 ≤ (x9_1 : Int) := of_decide_eq_true (by first | (with_reducible assumption) | assumption)
           have q107 : x9_1 < (t104.length : Int) := of_decide_eq_true (by first | (with_reducible assumption) | assumption)
           obtain ⟨ad107, e107, hx107_0, hx107_1, hx107_2, hx107_3⟩ := at_T31 (Kd.R_reads' HO_8.out).2.2 x9_1 p107 q107
           cases e107
           replace p107 := eq_true p107
           replace q107 := eq_true q107
           have p108 : 0 ≤ (x9_1 : Int) := of_decide_eq_true (by first | (with_reducible assumption) | assumption)
           have q108 : x9_1 < (t104.length : Int) := of_decide_eq_true (by first | (with_reducible assumption) | assumption)
           obtain ⟨ad108, e108, hx108_0, hx108_1, hx108_2, hx108_3⟩ := at_T31 (Kd.R_reads' HO_8.out).2.2 x9_1 p108 q108
           obtain rfl : ad107 = ad108 := (by injection e108)
           replace p108 := eq_true p108
           replace q108 := eq_true q108
           have p109 : 0 ≤ (x9_1 : Int) := of_decide_eq_true (by first | (with_reducible assumption) | assumption)
           have q109 : x9_1 < (t104.length : Int) := of_decide_eq_true (by first | (with_reducible assumption) | assumption)
           obtain ⟨ad109, e109, hx109_0, hx109_1, hx109_2, hx109_3⟩ := at_T31 (Kd.R_reads' HO_8.out).2.2 x9_1 p109 q109
           obtain rfl : ad107 = ad109 := (by injection e109)
           replace p109 := eq_true p109
           replace q109 := eq_true q109
           have p117 : 0 ≤ (x9_1 : Int) := of_decide_eq_true (by first | (with_reducible assumption) | assumption)
           have q117 : x9_1 < (t104.length : Int) := of_decide_eq_true (by first | (with_reducible assumption) | assumption)
           obtain ⟨ad117, e117, hx117_0, hx117_1, hx117_2, hx117_3⟩ := at_T31 (Kd.R_reads' HO_8.out).2.2 x9_1 p117 q117
           obtain rfl : ad107 = ad117 := (by injection e117)
           replace p117 := eq_true p117
           replace q117 := eq_true q117
           go_wp2
           repeat (go_quiet (fail); try go_wp2)
           go_roundg k1
           case measure => have := HK1.out; omega
           case rel => exact ⟨(wrap64 (x7_1 + (wrap64 ((((rd_T31 t104 x9_1).f2).size : Int) + 2)))), (wrap64 (x9_1 + 1)), (by first | rfl | (simp; done) | (simp [*]; done)), (by first | rfl | (simp; done) | (simp [*]; done)), H', ⟨by have := HK1.out; omega⟩, ⟨by (with_reducible repeat (first | apply Kd.R_alloc | apply Kd.R_drewN | apply Kd.R_drew)); exact HO_8.out⟩, ⟨bl HB.out⟩⟩
          ·rw [if_neg c29] at H
           have c29b0 : (((rd_T31 t104 x9_1).f0) == 2) = false := beq_eq_false_iff_ne.mpr c29
           have c29b1 : (((rd_T31 t104 x9_1).f0) != 2) = true := bne_iff_ne.mpr c29
           by_cases c31 : ((rd_T31 t104 x9_1).f3) = 0
           ·rw [if_pos c31] at H
            have c31b0 : (((rd_T31 t104 x9_1).f3) == 0) = true := beq_iff_eq.mpr c31
            have c31b1 : (((rd_T31 t104 x9_1).f3) != 0) = false := bne_eq_false_iff_eq.mpr c31
            clear c31
            have H' := Aside0.mk H
            clear H
            obtain ⟨Ao32, co32, eo32⟩ := Kd.R_slice HO_8.out
            subst eo32
            have p107 : 0 ≤ (x9_1 : Int) := of_decide_eq_true (by first | (with_reducible assumption) | assumption)
            have q107 : x9_1 < (t104.length : Int) := of_decide_eq_true (by first | (with_reducible assumption) | assumption)
            obtain ⟨ad107, e107, hx107_0, hx107_1, hx107_2, hx107_3⟩ := at_T31 (Kd.R_reads' HO_8.out).2.2 x9_1 p107 q107
            cases e107
            replace p107 := eq_true p107
            replace q107 := eq_true q107
            have p108 : 0 ≤ (x9_1 : Int) := of_decide_eq_true (by first | (with_reducible assumption) | assumption)
            have q108 : x9_1 < (t104.length : Int) := of_decide_eq_true (by first | (with_reducible assumption) | assumption)
            obtain ⟨ad108, e108, hx108_0, hx108_1, hx108_2, hx108_3⟩ := at_T31 (Kd.R_reads' HO_8.out).2.2 x9_1 p108 q108
            obtain rfl : ad107 = ad108 := (by injection e108)
            replace p108 := eq_true p108
            replace q108 := eq_true q108
            have p109 : 0 ≤ (x9_1 : Int) := of_decide_eq_true (by first | (with_reducible assumption) | assumption)
            have q109 : x9_1 < (t104.length : Int) := of_decide_eq_true (by first | (with_reducible assumption) | assumption)
            obtain ⟨ad109, e109, hx109_0, hx109_1, hx109_2, hx109_3⟩ := at_T31 (Kd.R_reads' HO_8.out).2.2 x9_1 p109 q109
            obtain rfl : ad107 = ad109 := (by injection e109)
            replace p109 := eq_true p109
            replace q109 := eq_true q109
            have p117 : 0 ≤ (x9_1 : Int) := of_decide_eq_true (by first | (with_reducible assumption) | assumption)
            have q117 : x9_1 < (t104.length : Int) := of_decide_eq_true (by first | (with_reducible assumption) | assumption)
            obtain ⟨ad117, e117, hx117_0, hx117_1, hx117_2, hx117_3⟩ := at_T31 (Kd.R_reads' HO_8.out).2.2 x9_1 p117 q117
            obtain rfl : ad107 = ad117 := (by injection e117)
            replace p117 := eq_true p117
            replace q117 := eq_true q117
            have p118 : 0 ≤ (x9_1 : Int) := of_decide_eq_true (by first | (with_reducible assumption) | assumption)
            have q118 : x9_1 < (t104.length : Int) := of_decide_eq_true (by first | (with_reducible assumption) | assumption)
            obtain ⟨ad118, e118, hx118_0, hx118_1, hx118_2, hx118_3⟩ := at_T31 (Kd.R_reads' HO_8.out).2.2 x9_1 p118 q118
            obtain rfl : ad107 = ad118 := (by injection e118)
            replace p118 := eq_true p118
            replace q118 := eq_true q118
            go_wp2
            repeat (go_quiet (fail); try go_wp2)
            go_roundg k1
            case measure => have := HK1.out; omega
            case rel => exact ⟨(wrap64 (x7_1 + (wrap64 ((((rd_T31 t104 x9_1).f2).size : Int) + 2)))), (wrap64 (x9_1 + 1)), (by first | rfl | (simp; done) | (simp [*]; done)), (by first | rfl | (simp; done) | (simp [*]; done)), H', ⟨by have := HK1.out; omega⟩, ⟨by (with_reducible repeat (first | apply Kd.R_alloc | apply Kd.R_drewN | apply Kd.R_drew)); exact HO_8.out⟩, ⟨bl HB.out⟩⟩
           ·rw [if_neg c31] at H
            exact absurd H (by simp)
      ·rw [if_neg c12] at H
       exact absurd H (by simp)
     ·rw [if_neg c11] at H
      have c11b0 : (((rd_T31 t104 x9_1).f0) == 9) = false := beq_eq_false_iff_ne.mpr c11
      have c11b1 : (((rd_T31 t104 x9_1).f0) != 9) = true := bne_iff_ne.mpr c11
      by_cases c33 : ((rd_T31 t104 x9_1).f1) = x7_1
      ·rw [if_pos c33] at H
       have c33b0 : (((rd_T31 t104 x9_1).f1) == x7_1) = true := beq_iff_eq.mpr c33
       have c33b1 : (((rd_T31 t104 x9_1).f1) != x7_1) = false := bne_eq_false_iff_eq.mpr c33
       clear c33
       by_cases c34 : (((rd_T31 t104 x9_1).f2).size : Int) = 0
       ·rw [if_pos c34] at H
        exact absurd H (by simp)
       ·rw [if_neg c34] at H
        have c34b0 : ((((rd_T31 t104 x9_1).f2).size : Int) == 0) = false := beq_eq_false_iff_ne.mpr c34
        have c34b1 : ((((rd_T31 t104 x9_1).f2).size : Int) != 0) = true := bne_iff_ne.mpr c34
        by_cases c35 : (wrap64 (x7_1 + (((rd_T31 t104 x9_1).f2).size : Int))) > (t103.size : Int)
        ·rw [if_pos c35] at H
         exact absurd H (by simp)
        ·rw [if_neg c35] at H
         have c35b0 : decide ((t103.size : Int) < (wrap64 (x7_1 + (((rd_T31 t104 x9_1).f2).size : Int)))) = false := decide_eq_false c35
         clear c35
         by_cases c36 : x9_1 > 0
         ·rw [if_pos c36] at H
          have c36b0 : decide (0 < x9_1) = true := decide_eq_true c36
          clear c36
          obtain ⟨ji37, hji37⟩ : ∃ j_ : Int, (wrap64 (x9_1 - 1)) = j_ := ⟨_, rfl⟩
          replace H : (if 0 ≤ (ji37) then (if (ji37) < (t104.length : Int) then (if ((rd_T31 t104 x9_1).f0) = ((rd_T31 t104 (ji37)).f0) then (if ((rd_T31 t104 x9_1).f0) ≤ 2 then (none) else (if ((rd_T31 t104 x9_1).f0) = 2 then (drachmlaw08_LexPlaces.l0 k1 t103 t101 (wrap64 (x7_1 + (((rd_T31 t104 x9_1).f2).size : Int))) t104 (wrap64 (x9_1 + 1))) else (if ((rd_T31 t104 x9_1).f3) = 0 then (drachmlaw08_LexPlaces.l0 k1 t103 t101 (wrap64 (x7_1 + (((rd_T31 t104 x9_1).f2).size : Int))) t104 (wrap64 (x9_1 + 1))) else (none)))) else (if ((rd_T31 t104 x9_1).f0) = 2 then (drachmlaw08_LexPlaces.l0 k1 t103 t101 (wrap64 (x7_1 + (((rd_T31 t104 x9_1).f2).size : Int))) t104 (wrap64 (x9_1 + 1))) else (if ((rd_T31 t104 x9_1).f3) = 0 then (drachmlaw08_LexPlaces.l0 k1 t103 t101 (wrap64 (x7_1 + (((rd_T31 t104 x9_1).f2).size : Int))) t104 (wrap64 (x9_1 + 1))) else (none)))) else (none)) else (none)) = some r := by first | (rw [hji37] at H; exact H) | (simp only [hji37] at H ⊢; exact H)
          have hji37w : (IntKind.i64.wrap (x9_1 - 1)) = ji37 := (i64_w _).trans hji37
          by_cases c38 : 0 ≤ (ji37)
          ·rw [if_pos c38] at H
           have c38b0 : decide (0 ≤ (ji37)) = true := decide_eq_true c38
           clear c38
           by_cases c39 : (ji37) < (t104.length : Int)
           ·rw [if_pos c39] at H
            have c39b0 : decide ((ji37) < (t104.length : Int)) = true := decide_eq_true c39
            clear c39
            by_cases c40 : ((rd_T31 t104 x9_1).f0) = ((rd_T31 t104 (ji37)).f0)
            ·rw [if_pos c40] at H
             have c40b0 : (((rd_T31 t104 x9_1).f0) == ((rd_T31 t104 (ji37)).f0)) = true := beq_iff_eq.mpr c40
             have c40b1 : (((rd_T31 t104 x9_1).f0) != ((rd_T31 t104 (ji37)).f0)) = false := bne_eq_false_iff_eq.mpr c40
             clear c40
             by_cases c41 : ((rd_T31 t104 x9_1).f0) ≤ 2
             ·rw [if_pos c41] at H
              exact absurd H (by simp)
             ·rw [if_neg c41] at H
              have c41b0 : decide (((rd_T31 t104 x9_1).f0) ≤ 2) = false := decide_eq_false c41
              clear c41
              by_cases c42 : ((rd_T31 t104 x9_1).f0) = 2
              ·rw [if_pos c42] at H
               have c42b0 : (((rd_T31 t104 x9_1).f0) == 2) = true := beq_iff_eq.mpr c42
               have c42b1 : (((rd_T31 t104 x9_1).f0) != 2) = false := bne_eq_false_iff_eq.mpr c42
               clear c42
               have H' := Aside0.mk H
               clear H
               obtain ⟨Ao43, co43, eo43⟩ := Kd.R_slice HO_8.out
               subst eo43
               have p107 : 0 ≤ (x9_1 : Int) := of_decide_eq_true (by first | (with_reducible assumption) | assumption)
               have q107 : x9_1 < (t104.length : Int) := of_decide_eq_true (by first | (with_reducible assumption) | assumption)
               obtain ⟨ad107, e107, hx107_0, hx107_1, hx107_2, hx107_3⟩ := at_T31 (Kd.R_reads' HO_8.out).2.2 x9_1 p107 q107
               cases e107
               replace p107 := eq_true p107
               replace q107 := eq_true q107
               have p108 : 0 ≤ (x9_1 : Int) := of_decide_eq_true (by first | (with_reducible assumption) | assumption)
               have q108 : x9_1 < (t104.length : Int) := of_decide_eq_true (by first | (with_reducible assumption) | assumption)
               obtain ⟨ad108, e108, hx108_0, hx108_1, hx108_2, hx108_3⟩ := at_T31 (Kd.R_reads' HO_8.out).2.2 x9_1 p108 q108
               obtain rfl : ad107 = ad108 := (by injection e108)
               replace p108 := eq_true p108
               replace q108 := eq_true q108
               have p119 : 0 ≤ (x9_1 : Int) := of_decide_eq_true (by first | (with_reducible assumption) | assumption)
               have q119 : x9_1 < (t104.length : Int) := of_decide_eq_true (by first | (with_reducible assumption) | assumption)
               obtain ⟨ad119, e119, hx119_0, hx119_1, hx119_2, hx119_3⟩ := at_T31 (Kd.R_reads' HO_8.out).2.2 x9_1 p119 q119
               obtain rfl : ad107 = ad119 := (by injection e119)
               replace p119 := eq_true p119
               replace q119 := eq_true q119
               have p120 : 0 ≤ (x9_1 : Int) := of_decide_eq_true (by first | (with_reducible assumption) | assumption)
               have q120 : x9_1 < (t104.length : Int) := of_decide_eq_true (by first | (with_reducible assumption) | assumption)
               obtain ⟨ad120, e120, hx120_0, hx120_1, hx120_2, hx120_3⟩ := at_T31 (Kd.R_reads' HO_8.out).2.2 x9_1 p120 q120
               obtain rfl : ad107 = ad120 := (by injection e120)
               replace p120 := eq_true p120
               replace q120 := eq_true q120
               have p121 : 0 ≤ ((ji37) : Int) := of_decide_eq_true (by first | (with_reducible assumption) | assumption)
               have q121 : (ji37) < (t104.length : Int) := of_decide_eq_true (by first | (with_reducible assumption) | assumption)
               obtain ⟨ad121, e121, hx121_0, hx121_1, hx121_2, hx121_3⟩ := at_T31 (Kd.R_reads' HO_8.out).2.2 (ji37) p121 q121
               obtain rfl : ad107 = ad121 := (by injection e121)
               replace p121 := eq_true p121
               replace q121 := eq_true q121
               have p122 : 0 ≤ (x9_1 : Int) := of_decide_eq_true (by first | (with_reducible assumption) | assumption)
               have q122 : x9_1 < (t104.length : Int) := of_decide_eq_true (by first | (with_reducible assumption) | assumption)
               obtain ⟨ad122, e122, hx122_0, hx122_1, hx122_2, hx122_3⟩ := at_T31 (Kd.R_reads' HO_8.out).2.2 x9_1 p122 q122
               obtain rfl : ad107 = ad122 := (by injection e122)
               replace p122 := eq_true p122
               replace q122 := eq_true q122
               have p123 : 0 ≤ (x9_1 : Int) := of_decide_eq_true (by first | (with_reducible assumption) | assumption)
               have q123 : x9_1 < (t104.length : Int) := of_decide_eq_true (by first | (with_reducible assumption) | assumption)
               obtain ⟨ad123, e123, hx123_0, hx123_1, hx123_2, hx123_3⟩ := at_T31 (Kd.R_reads' HO_8.out).2.2 x9_1 p123 q123
               obtain rfl : ad107 = ad123 := (by injection e123)
               replace p123 := eq_true p123
               replace q123 := eq_true q123
               go_wp2
               repeat (go_quiet (fail); try go_wp2)
               go_roundg k1
               case measure => have := HK1.out; omega
               case rel => exact ⟨(wrap64 (x7_1 + (((rd_T31 t104 x9_1).f2).size : Int))), (wrap64 (x9_1 + 1)), (by first | rfl | (simp; done) | (simp [*]; done)), (by first | rfl | (simp; done) | (simp [*]; done)), H', ⟨by have := HK1.out; omega⟩, ⟨by (with_reducible repeat (first | apply Kd.R_alloc | apply Kd.R_drewN | apply Kd.R_drew)); exact HO_8.out⟩, ⟨bl HB.out⟩⟩
              ·rw [if_neg c42] at H
               have c42b0 : (((rd_T31 t104 x9_1).f0) == 2) = false := beq_eq_false_iff_ne.mpr c42
               have c42b1 : (((rd_T31 t104 x9_1).f0) != 2) = true := bne_iff_ne.mpr c42
               by_cases c44 : ((rd_T31 t104 x9_1).f3) = 0
               ·rw [if_pos c44] at H
                have c44b0 : (((rd_T31 t104 x9_1).f3) == 0) = true := beq_iff_eq.mpr c44
                have c44b1 : (((rd_T31 t104 x9_1).f3) != 0) = false := bne_eq_false_iff_eq.mpr c44
                clear c44
                have H' := Aside0.mk H
                clear H
                obtain ⟨Ao45, co45, eo45⟩ := Kd.R_slice HO_8.out
                subst eo45
                have p107 : 0 ≤ (x9_1 : Int) := of_decide_eq_true (by first | (with_reducible assumption) | assumption)
                have q107 : x9_1 < (t104.length : Int) := of_decide_eq_true (by first | (with_reducible assumption) | assumption)
                obtain ⟨ad107, e107, hx107_0, hx107_1, hx107_2, hx107_3⟩ := at_T31 (Kd.R_reads' HO_8.out).2.2 x9_1 p107 q107
                cases e107
                replace p107 := eq_true p107
                replace q107 := eq_true q107
                have p108 : 0 ≤ (x9_1 : Int) := of_decide_eq_true (by first | (with_reducible assumption) | assumption)
                have q108 : x9_1 < (t104.length : Int) := of_decide_eq_true (by first | (with_reducible assumption) | assumption)
                obtain ⟨ad108, e108, hx108_0, hx108_1, hx108_2, hx108_3⟩ := at_T31 (Kd.R_reads' HO_8.out).2.2 x9_1 p108 q108
                obtain rfl : ad107 = ad108 := (by injection e108)
                replace p108 := eq_true p108
                replace q108 := eq_true q108
                have p119 : 0 ≤ (x9_1 : Int) := of_decide_eq_true (by first | (with_reducible assumption) | assumption)
                have q119 : x9_1 < (t104.length : Int) := of_decide_eq_true (by first | (with_reducible assumption) | assumption)
                obtain ⟨ad119, e119, hx119_0, hx119_1, hx119_2, hx119_3⟩ := at_T31 (Kd.R_reads' HO_8.out).2.2 x9_1 p119 q119
                obtain rfl : ad107 = ad119 := (by injection e119)
                replace p119 := eq_true p119
                replace q119 := eq_true q119
                have p120 : 0 ≤ (x9_1 : Int) := of_decide_eq_true (by first | (with_reducible assumption) | assumption)
                have q120 : x9_1 < (t104.length : Int) := of_decide_eq_true (by first | (with_reducible assumption) | assumption)
                obtain ⟨ad120, e120, hx120_0, hx120_1, hx120_2, hx120_3⟩ := at_T31 (Kd.R_reads' HO_8.out).2.2 x9_1 p120 q120
                obtain rfl : ad107 = ad120 := (by injection e120)
                replace p120 := eq_true p120
                replace q120 := eq_true q120
                have p121 : 0 ≤ ((ji37) : Int) := of_decide_eq_true (by first | (with_reducible assumption) | assumption)
                have q121 : (ji37) < (t104.length : Int) := of_decide_eq_true (by first | (with_reducible assumption) | assumption)
                obtain ⟨ad121, e121, hx121_0, hx121_1, hx121_2, hx121_3⟩ := at_T31 (Kd.R_reads' HO_8.out).2.2 (ji37) p121 q121
                obtain rfl : ad107 = ad121 := (by injection e121)
                replace p121 := eq_true p121
                replace q121 := eq_true q121
                have p122 : 0 ≤ (x9_1 : Int) := of_decide_eq_true (by first | (with_reducible assumption) | assumption)
                have q122 : x9_1 < (t104.length : Int) := of_decide_eq_true (by first | (with_reducible assumption) | assumption)
                obtain ⟨ad122, e122, hx122_0, hx122_1, hx122_2, hx122_3⟩ := at_T31 (Kd.R_reads' HO_8.out).2.2 x9_1 p122 q122
                obtain rfl : ad107 = ad122 := (by injection e122)
                replace p122 := eq_true p122
                replace q122 := eq_true q122
                have p123 : 0 ≤ (x9_1 : Int) := of_decide_eq_true (by first | (with_reducible assumption) | assumption)
                have q123 : x9_1 < (t104.length : Int) := of_decide_eq_true (by first | (with_reducible assumption) | assumption)
                obtain ⟨ad123, e123, hx123_0, hx123_1, hx123_2, hx123_3⟩ := at_T31 (Kd.R_reads' HO_8.out).2.2 x9_1 p123 q123
                obtain rfl : ad107 = ad123 := (by injection e123)
                replace p123 := eq_true p123
                replace q123 := eq_true q123
                have p124 : 0 ≤ (x9_1 : Int) := of_decide_eq_true (by first | (with_reducible assumption) | assumption)
                have q124 : x9_1 < (t104.length : Int) := of_decide_eq_true (by first | (with_reducible assumption) | assumption)
                obtain ⟨ad124, e124, hx124_0, hx124_1, hx124_2, hx124_3⟩ := at_T31 (Kd.R_reads' HO_8.out).2.2 x9_1 p124 q124
                obtain rfl : ad107 = ad124 := (by injection e124)
                replace p124 := eq_true p124
                replace q124 := eq_true q124
                go_wp2
                repeat (go_quiet (fail); try go_wp2)
                go_roundg k1
                case measure => have := HK1.out; omega
                case rel => exact ⟨(wrap64 (x7_1 + (((rd_T31 t104 x9_1).f2).size : Int))), (wrap64 (x9_1 + 1)), (by first | rfl | (simp; done) | (simp [*]; done)), (by first | rfl | (simp; done) | (simp [*]; done)), H', ⟨by have := HK1.out; omega⟩, ⟨by (with_reducible repeat (first | apply Kd.R_alloc | apply Kd.R_drewN | apply Kd.R_drew)); exact HO_8.out⟩, ⟨bl HB.out⟩⟩
               ·rw [if_neg c44] at H
                exact absurd H (by simp)
            ·rw [if_neg c40] at H
             have c40b0 : (((rd_T31 t104 x9_1).f0) == ((rd_T31 t104 (ji37)).f0)) = false := beq_eq_false_iff_ne.mpr c40
             have c40b1 : (((rd_T31 t104 x9_1).f0) != ((rd_T31 t104 (ji37)).f0)) = true := bne_iff_ne.mpr c40
             by_cases c46 : ((rd_T31 t104 x9_1).f0) = 2
             ·rw [if_pos c46] at H
              have c46b0 : (((rd_T31 t104 x9_1).f0) == 2) = true := beq_iff_eq.mpr c46
              have c46b1 : (((rd_T31 t104 x9_1).f0) != 2) = false := bne_eq_false_iff_eq.mpr c46
              clear c46
              have H' := Aside0.mk H
              clear H
              obtain ⟨Ao47, co47, eo47⟩ := Kd.R_slice HO_8.out
              subst eo47
              have p107 : 0 ≤ (x9_1 : Int) := of_decide_eq_true (by first | (with_reducible assumption) | assumption)
              have q107 : x9_1 < (t104.length : Int) := of_decide_eq_true (by first | (with_reducible assumption) | assumption)
              obtain ⟨ad107, e107, hx107_0, hx107_1, hx107_2, hx107_3⟩ := at_T31 (Kd.R_reads' HO_8.out).2.2 x9_1 p107 q107
              cases e107
              replace p107 := eq_true p107
              replace q107 := eq_true q107
              have p108 : 0 ≤ (x9_1 : Int) := of_decide_eq_true (by first | (with_reducible assumption) | assumption)
              have q108 : x9_1 < (t104.length : Int) := of_decide_eq_true (by first | (with_reducible assumption) | assumption)
              obtain ⟨ad108, e108, hx108_0, hx108_1, hx108_2, hx108_3⟩ := at_T31 (Kd.R_reads' HO_8.out).2.2 x9_1 p108 q108
              obtain rfl : ad107 = ad108 := (by injection e108)
              replace p108 := eq_true p108
              replace q108 := eq_true q108
              have p119 : 0 ≤ (x9_1 : Int) := of_decide_eq_true (by first | (with_reducible assumption) | assumption)
              have q119 : x9_1 < (t104.length : Int) := of_decide_eq_true (by first | (with_reducible assumption) | assumption)
              obtain ⟨ad119, e119, hx119_0, hx119_1, hx119_2, hx119_3⟩ := at_T31 (Kd.R_reads' HO_8.out).2.2 x9_1 p119 q119
              obtain rfl : ad107 = ad119 := (by injection e119)
              replace p119 := eq_true p119
              replace q119 := eq_true q119
              have p120 : 0 ≤ (x9_1 : Int) := of_decide_eq_true (by first | (with_reducible assumption) | assumption)
              have q120 : x9_1 < (t104.length : Int) := of_decide_eq_true (by first | (with_reducible assumption) | assumption)
              obtain ⟨ad120, e120, hx120_0, hx120_1, hx120_2, hx120_3⟩ := at_T31 (Kd.R_reads' HO_8.out).2.2 x9_1 p120 q120
              obtain rfl : ad107 = ad120 := (by injection e120)
              replace p120 := eq_true p120
              replace q120 := eq_true q120
              have p121 : 0 ≤ ((ji37) : Int) := of_decide_eq_true (by first | (with_reducible assumption) | assumption)
              have q121 : (ji37) < (t104.length : Int) := of_decide_eq_true (by first | (with_reducible assumption) | assumption)
              obtain ⟨ad121, e121, hx121_0, hx121_1, hx121_2, hx121_3⟩ := at_T31 (Kd.R_reads' HO_8.out).2.2 (ji37) p121 q121
              obtain rfl : ad107 = ad121 := (by injection e121)
              replace p121 := eq_true p121
              replace q121 := eq_true q121
              have p125 : 0 ≤ (x9_1 : Int) := of_decide_eq_true (by first | (with_reducible assumption) | assumption)
              have q125 : x9_1 < (t104.length : Int) := of_decide_eq_true (by first | (with_reducible assumption) | assumption)
              obtain ⟨ad125, e125, hx125_0, hx125_1, hx125_2, hx125_3⟩ := at_T31 (Kd.R_reads' HO_8.out).2.2 x9_1 p125 q125
              obtain rfl : ad107 = ad125 := (by injection e125)
              replace p125 := eq_true p125
              replace q125 := eq_true q125
              go_wp2
              repeat (go_quiet (fail); try go_wp2)
              go_roundg k1
              case measure => have := HK1.out; omega
              case rel => exact ⟨(wrap64 (x7_1 + (((rd_T31 t104 x9_1).f2).size : Int))), (wrap64 (x9_1 + 1)), (by first | rfl | (simp; done) | (simp [*]; done)), (by first | rfl | (simp; done) | (simp [*]; done)), H', ⟨by have := HK1.out; omega⟩, ⟨by (with_reducible repeat (first | apply Kd.R_alloc | apply Kd.R_drewN | apply Kd.R_drew)); exact HO_8.out⟩, ⟨bl HB.out⟩⟩
             ·rw [if_neg c46] at H
              have c46b0 : (((rd_T31 t104 x9_1).f0) == 2) = false := beq_eq_false_iff_ne.mpr c46
              have c46b1 : (((rd_T31 t104 x9_1).f0) != 2) = true := bne_iff_ne.mpr c46
              by_cases c48 : ((rd_T31 t104 x9_1).f3) = 0
              ·rw [if_pos c48] at H
               have c48b0 : (((rd_T31 t104 x9_1).f3) == 0) = true := beq_iff_eq.mpr c48
               have c48b1 : (((rd_T31 t104 x9_1).f3) != 0) = false := bne_eq_false_iff_eq.mpr c48
               clear c48
               have H' := Aside0.mk H
               clear H
               obtain ⟨Ao49, co49, eo49⟩ := Kd.R_slice HO_8.out
               subst eo49
               have p107 : 0 ≤ (x9_1 : Int) := of_decide_eq_true (by first | (with_reducible assumption) | assumption)
               have q107 : x9_1 < (t104.length : Int) := of_decide_eq_true (by first | (with_reducible assumption) | assumption)
               obtain ⟨ad107, e107, hx107_0, hx107_1, hx107_2, hx107_3⟩ := at_T31 (Kd.R_reads' HO_8.out).2.2 x9_1 p107 q107
               cases e107
               replace p107 := eq_true p107
               replace q107 := eq_true q107
               have p108 : 0 ≤ (x9_1 : Int) := of_decide_eq_true (by first | (with_reducible assumption) | assumption)
               have q108 : x9_1 < (t104.length : Int) := of_decide_eq_true (by first | (with_reducible assumption) | assumption)
               obtain ⟨ad108, e108, hx108_0, hx108_1, hx108_2, hx108_3⟩ := at_T31 (Kd.R_reads' HO_8.out).2.2 x9_1 p108 q108
               obtain rfl : ad107 = ad108 := (by injection e108)
               replace p108 := eq_true p108
               replace q108 := eq_true q108
               have p119 : 0 ≤ (x9_1 : Int) := of_decide_eq_true (by first | (with_reducible assumption) | assumption)
               have q119 : x9_1 < (t104.length : Int) := of_decide_eq_true (by first | (with_reducible assumption) | assumption)
               obtain ⟨ad119, e119, hx119_0, hx119_1, hx119_2, hx119_3⟩ := at_T31 (Kd.R_reads' HO_8.out).2.2 x9_1 p119 q119
               obtain rfl : ad107 = ad119 := (by injection e119)
               replace p119 := eq_true p119
               replace q119 := eq_true q119
               have p120 : 0 ≤ (x9_1 : Int) := of_decide_eq_true (by first | (with_reducible assumption) | assumption)
               have q120 : x9_1 < (t104.length : Int) := of_decide_eq_true (by first | (with_reducible assumption) | assumption)
               obtain ⟨ad120, e120, hx120_0, hx120_1, hx120_2, hx120_3⟩ := at_T31 (Kd.R_reads' HO_8.out).2.2 x9_1 p120 q120
               obtain rfl : ad107 = ad120 := (by injection e120)
               replace p120 := eq_true p120
               replace q120 := eq_true q120
               have p121 : 0 ≤ ((ji37) : Int) := of_decide_eq_true (by first | (with_reducible assumption) | assumption)
               have q121 : (ji37) < (t104.length : Int) := of_decide_eq_true (by first | (with_reducible assumption) | assumption)
               obtain ⟨ad121, e121, hx121_0, hx121_1, hx121_2, hx121_3⟩ := at_T31 (Kd.R_reads' HO_8.out).2.2 (ji37) p121 q121
               obtain rfl : ad107 = ad121 := (by injection e121)
               replace p121 := eq_true p121
               replace q121 := eq_true q121
               have p125 : 0 ≤ (x9_1 : Int) := of_decide_eq_true (by first | (with_reducible assumption) | assumption)
               have q125 : x9_1 < (t104.length : Int) := of_decide_eq_true (by first | (with_reducible assumption) | assumption)
               obtain ⟨ad125, e125, hx125_0, hx125_1, hx125_2, hx125_3⟩ := at_T31 (Kd.R_reads' HO_8.out).2.2 x9_1 p125 q125
               obtain rfl : ad107 = ad125 := (by injection e125)
               replace p125 := eq_true p125
               replace q125 := eq_true q125
               have p126 : 0 ≤ (x9_1 : Int) := of_decide_eq_true (by first | (with_reducible assumption) | assumption)
               have q126 : x9_1 < (t104.length : Int) := of_decide_eq_true (by first | (with_reducible assumption) | assumption)
               obtain ⟨ad126, e126, hx126_0, hx126_1, hx126_2, hx126_3⟩ := at_T31 (Kd.R_reads' HO_8.out).2.2 x9_1 p126 q126
               obtain rfl : ad107 = ad126 := (by injection e126)
               replace p126 := eq_true p126
               replace q126 := eq_true q126
               go_wp2
               repeat (go_quiet (fail); try go_wp2)
               go_roundg k1
               case measure => have := HK1.out; omega
               case rel => exact ⟨(wrap64 (x7_1 + (((rd_T31 t104 x9_1).f2).size : Int))), (wrap64 (x9_1 + 1)), (by first | rfl | (simp; done) | (simp [*]; done)), (by first | rfl | (simp; done) | (simp [*]; done)), H', ⟨by have := HK1.out; omega⟩, ⟨by (with_reducible repeat (first | apply Kd.R_alloc | apply Kd.R_drewN | apply Kd.R_drew)); exact HO_8.out⟩, ⟨bl HB.out⟩⟩
              ·rw [if_neg c48] at H
               exact absurd H (by simp)
           ·rw [if_neg c39] at H
            exact absurd H (by simp)
          ·rw [if_neg c38] at H
           exact absurd H (by simp)
         ·rw [if_neg c36] at H
          have c36b0 : decide (0 < x9_1) = false := decide_eq_false c36
          clear c36
          by_cases c50 : ((rd_T31 t104 x9_1).f0) = 2
          ·rw [if_pos c50] at H
           have c50b0 : (((rd_T31 t104 x9_1).f0) == 2) = true := beq_iff_eq.mpr c50
           have c50b1 : (((rd_T31 t104 x9_1).f0) != 2) = false := bne_eq_false_iff_eq.mpr c50
           clear c50
           have H' := Aside0.mk H
           clear H
           obtain ⟨Ao51, co51, eo51⟩ := Kd.R_slice HO_8.out
           subst eo51
           have p107 : 0 ≤ (x9_1 : Int) := of_decide_eq_true (by first | (with_reducible assumption) | assumption)
           have q107 : x9_1 < (t104.length : Int) := of_decide_eq_true (by first | (with_reducible assumption) | assumption)
           obtain ⟨ad107, e107, hx107_0, hx107_1, hx107_2, hx107_3⟩ := at_T31 (Kd.R_reads' HO_8.out).2.2 x9_1 p107 q107
           cases e107
           replace p107 := eq_true p107
           replace q107 := eq_true q107
           have p108 : 0 ≤ (x9_1 : Int) := of_decide_eq_true (by first | (with_reducible assumption) | assumption)
           have q108 : x9_1 < (t104.length : Int) := of_decide_eq_true (by first | (with_reducible assumption) | assumption)
           obtain ⟨ad108, e108, hx108_0, hx108_1, hx108_2, hx108_3⟩ := at_T31 (Kd.R_reads' HO_8.out).2.2 x9_1 p108 q108
           obtain rfl : ad107 = ad108 := (by injection e108)
           replace p108 := eq_true p108
           replace q108 := eq_true q108
           have p119 : 0 ≤ (x9_1 : Int) := of_decide_eq_true (by first | (with_reducible assumption) | assumption)
           have q119 : x9_1 < (t104.length : Int) := of_decide_eq_true (by first | (with_reducible assumption) | assumption)
           obtain ⟨ad119, e119, hx119_0, hx119_1, hx119_2, hx119_3⟩ := at_T31 (Kd.R_reads' HO_8.out).2.2 x9_1 p119 q119
           obtain rfl : ad107 = ad119 := (by injection e119)
           replace p119 := eq_true p119
           replace q119 := eq_true q119
           have p127 : 0 ≤ (x9_1 : Int) := of_decide_eq_true (by first | (with_reducible assumption) | assumption)
           have q127 : x9_1 < (t104.length : Int) := of_decide_eq_true (by first | (with_reducible assumption) | assumption)
           obtain ⟨ad127, e127, hx127_0, hx127_1, hx127_2, hx127_3⟩ := at_T31 (Kd.R_reads' HO_8.out).2.2 x9_1 p127 q127
           obtain rfl : ad107 = ad127 := (by injection e127)
           replace p127 := eq_true p127
           replace q127 := eq_true q127
           go_wp2
           repeat (go_quiet (fail); try go_wp2)
           go_roundg k1
           case measure => have := HK1.out; omega
           case rel => exact ⟨(wrap64 (x7_1 + (((rd_T31 t104 x9_1).f2).size : Int))), (wrap64 (x9_1 + 1)), (by first | rfl | (simp; done) | (simp [*]; done)), (by first | rfl | (simp; done) | (simp [*]; done)), H', ⟨by have := HK1.out; omega⟩, ⟨by (with_reducible repeat (first | apply Kd.R_alloc | apply Kd.R_drewN | apply Kd.R_drew)); exact HO_8.out⟩, ⟨bl HB.out⟩⟩
          ·rw [if_neg c50] at H
           have c50b0 : (((rd_T31 t104 x9_1).f0) == 2) = false := beq_eq_false_iff_ne.mpr c50
           have c50b1 : (((rd_T31 t104 x9_1).f0) != 2) = true := bne_iff_ne.mpr c50
           by_cases c52 : ((rd_T31 t104 x9_1).f3) = 0
           ·rw [if_pos c52] at H
            have c52b0 : (((rd_T31 t104 x9_1).f3) == 0) = true := beq_iff_eq.mpr c52
            have c52b1 : (((rd_T31 t104 x9_1).f3) != 0) = false := bne_eq_false_iff_eq.mpr c52
            clear c52
            have H' := Aside0.mk H
            clear H
            obtain ⟨Ao53, co53, eo53⟩ := Kd.R_slice HO_8.out
            subst eo53
            have p107 : 0 ≤ (x9_1 : Int) := of_decide_eq_true (by first | (with_reducible assumption) | assumption)
            have q107 : x9_1 < (t104.length : Int) := of_decide_eq_true (by first | (with_reducible assumption) | assumption)
            obtain ⟨ad107, e107, hx107_0, hx107_1, hx107_2, hx107_3⟩ := at_T31 (Kd.R_reads' HO_8.out).2.2 x9_1 p107 q107
            cases e107
            replace p107 := eq_true p107
            replace q107 := eq_true q107
            have p108 : 0 ≤ (x9_1 : Int) := of_decide_eq_true (by first | (with_reducible assumption) | assumption)
            have q108 : x9_1 < (t104.length : Int) := of_decide_eq_true (by first | (with_reducible assumption) | assumption)
            obtain ⟨ad108, e108, hx108_0, hx108_1, hx108_2, hx108_3⟩ := at_T31 (Kd.R_reads' HO_8.out).2.2 x9_1 p108 q108
            obtain rfl : ad107 = ad108 := (by injection e108)
            replace p108 := eq_true p108
            replace q108 := eq_true q108
            have p119 : 0 ≤ (x9_1 : Int) := of_decide_eq_true (by first | (with_reducible assumption) | assumption)
            have q119 : x9_1 < (t104.length : Int) := of_decide_eq_true (by first | (with_reducible assumption) | assumption)
            obtain ⟨ad119, e119, hx119_0, hx119_1, hx119_2, hx119_3⟩ := at_T31 (Kd.R_reads' HO_8.out).2.2 x9_1 p119 q119
            obtain rfl : ad107 = ad119 := (by injection e119)
            replace p119 := eq_true p119
            replace q119 := eq_true q119
            have p127 : 0 ≤ (x9_1 : Int) := of_decide_eq_true (by first | (with_reducible assumption) | assumption)
            have q127 : x9_1 < (t104.length : Int) := of_decide_eq_true (by first | (with_reducible assumption) | assumption)
            obtain ⟨ad127, e127, hx127_0, hx127_1, hx127_2, hx127_3⟩ := at_T31 (Kd.R_reads' HO_8.out).2.2 x9_1 p127 q127
            obtain rfl : ad107 = ad127 := (by injection e127)
            replace p127 := eq_true p127
            replace q127 := eq_true q127
            have p128 : 0 ≤ (x9_1 : Int) := of_decide_eq_true (by first | (with_reducible assumption) | assumption)
            have q128 : x9_1 < (t104.length : Int) := of_decide_eq_true (by first | (with_reducible assumption) | assumption)
            obtain ⟨ad128, e128, hx128_0, hx128_1, hx128_2, hx128_3⟩ := at_T31 (Kd.R_reads' HO_8.out).2.2 x9_1 p128 q128
            obtain rfl : ad107 = ad128 := (by injection e128)
            replace p128 := eq_true p128
            replace q128 := eq_true q128
            go_wp2
            repeat (go_quiet (fail); try go_wp2)
            go_roundg k1
            case measure => have := HK1.out; omega
            case rel => exact ⟨(wrap64 (x7_1 + (((rd_T31 t104 x9_1).f2).size : Int))), (wrap64 (x9_1 + 1)), (by first | rfl | (simp; done) | (simp [*]; done)), (by first | rfl | (simp; done) | (simp [*]; done)), H', ⟨by have := HK1.out; omega⟩, ⟨by (with_reducible repeat (first | apply Kd.R_alloc | apply Kd.R_drewN | apply Kd.R_drew)); exact HO_8.out⟩, ⟨bl HB.out⟩⟩
           ·rw [if_neg c52] at H
            exact absurd H (by simp)
      ·rw [if_neg c33] at H
       exact absurd H (by simp)
    ·rw [if_neg c10] at H
     exact absurd H (by simp)
   ·rw [if_neg c9] at H
    have c9b0 : decide (x9_1 < (t104.length : Int)) = false := decide_eq_false c9
    clear c9
    by_cases c54 : t101 = true
    ·subst c54
     have H1 : (some (decide (x7_1 ≤ (t103.size : Int)))) = some r := by rw [if_pos rfl] at H; exact H
     clear H
     have H := H1
     clear H1
     obtain rfl := Option.some.inj H
     obtain ⟨Ao55, co55, eo55⟩ := Kd.R_slice HO_8.out
     subst eo55
     go_wp2
     repeat (go_quiet (fail); try go_wp2)
     go_ret
     exact ⟨by first | rfl | (simp [errW_none, errW_some] <;> rfl) | (simp [*, errW_none, errW_some] <;> rfl), bl HB.out⟩
    ·replace c54 := Bool.eq_false_iff.mpr c54
     subst c54
     have H1 : (none) = some r := by rw [if_neg (show ¬ (false = true) by decide)] at H; exact H
     clear H
     have H := H1
     clear H1
     exact absurd H (by simp)

/-- THE ONE PURE STATEMENT of drachmlaw08_LexPlaces: yours. -/
def drachmlaw08_LexPlaces.Pure : Prop := ∀ (a0 : Int) (a1 : ByteArray), (Lit.int .i64 a0).wf = true → a1.size ≤ 140737488351232 → ∃ k, drachmlaw08_LexPlaces.f k a0 a1 = some true
theorem drachmlaw08_LexPlaces.walk (P : drachmlaw08_LexPlaces.Pure) (a0 : Int) (a1 : ByteArray) (w : World) (hG : Glob [0, 2] w) (w0 : (Lit.int .i64 a0).wf = true) (w1 : a1.size ≤ 140737488351232) :
  Calls Tryd.prog 4 #[.int .i64 a0, .string a1] w fun e w' => e = .returned (.bool true) ∧ Below w.heap.size w w' := by
 obtain ⟨k, h⟩ := P a0 a1 w0 w1
 refine (drachmlaw08_LexPlaces.calls k a0 a1 true w hG h).mono ?_
 rintro e w' ⟨rfl, hd⟩
 exact ⟨rfl, hd⟩

end Go.Proofs.YtimkhjbnkcgekaaDoor.PLexPlaces
