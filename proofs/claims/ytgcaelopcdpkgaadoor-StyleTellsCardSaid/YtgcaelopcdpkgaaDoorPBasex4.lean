/- Printed by a program of this session (wip/tools/prt.py) out of the translation: plain functions, and that the calls come to just them. No conditions beyond those that stand in each theorem. -/
import Derived.Test.YtgcaelopcdpkgaaDoorPBasex0
import Derived.Test.YtgcaelopcdpkgaaDoorPBasex1
namespace Go.Proofs.YtgcaelopcdpkgaaDoor.PBase
open Go.RowKit Go.Proofs.YtgcaelopcdpkgaaDoorW.PrintWords Go.Proofs.YtgcaelopcdpkgaaDoorW.PrintLast Go.Proofs.YtgcaelopcdpkgaaDoorW.PrintMore
attribute [local go_sem] max2_int min2_int max_two min_two max_three min_three max_four min_four   -- for this text's walks alone
set_option linter.unusedVariables false
set_option linter.unusedSimpArgs false

/-! ### drachmref07_Plain: function 21 -/
def drachmref07_Plain.l0 : Nat → ByteArray → Int → Bool → Int → Int → Int → Int → Int → Option (Bool)
  | 0, _, _, _, _, _, _, _, _ => none
  | k + 1, x1, x6, x134000, x134001, x134002, x134003, x134004, x134005 => if x6 < (x1.size : Int) then (if 0 ≤ x6 then (if (bt x1 x6) < 32 then (some false) else (if (bt x1 x6) > 126 then (some false) else (if (bt x1 x6) = x134004 then (some false) else (if (bt x1 x6) = x134005 then (some false) else (drachmref07_Plain.l0 k x1 (wrap64 (x6 + 1)) x134000 x134001 x134002 x134003 x134004 x134005))))) else (none)) else (some (x134004 != 0))
def drachmref07_Plain.f (k : Nat) (a0 : Int) (a1 : ByteArray) : Option (Bool) := (drachmref07_Of.f a0).bind fun bt127 => (drachmref07_Plain.l0 k a1 0 bt127.1 bt127.2.1 bt127.2.2.1 bt127.2.2.2.1 bt127.2.2.2.2.1 bt127.2.2.2.2.2)
theorem drachmref07_Plain.mono_l : ∀ k, (∀ y0 y1 y2 y3 y4 y5 y6 y7, LeO (drachmref07_Plain.l0 k y0 y1 y2 y3 y4 y5 y6 y7) (drachmref07_Plain.l0 (k + 1) y0 y1 y2 y3 y4 y5 y6 y7))
  | 0 => fun _ _ _ _ _ _ _ _ r h => by simp [drachmref07_Plain.l0] at h
  | k + 1 => by
    have ih0 := drachmref07_Plain.mono_l k
    · intro y0 y1 y2 y3 y4 y5 y6 y7
      unfold drachmref07_Plain.l0
      repeat' first
      | (with_reducible exact ih0 _ _ _ _ _ _ _ _)
      | (with_reducible exact LeO.refl _)
      | (with_reducible exact LeO.none _)
      | (with_reducible refine LeO.ite ?_ ?_)
      | (with_reducible refine LeO.bind ?_ (fun _ => ?_))
      | exact ih0 _ _ _ _ _ _ _ _
      | exact LeO.none _
      | refine LeO.ite ?_ ?_
      | refine LeO.bind ?_ (fun _ => ?_)
theorem drachmref07_Plain.mono : ∀ a0 a1 k, LeO (drachmref07_Plain.f k a0 a1) (drachmref07_Plain.f (k + 1) a0 a1) := by
  intro a0 a1 k
  have ih0 := drachmref07_Plain.mono_l k
  unfold drachmref07_Plain.f
  repeat' first
      | (with_reducible exact ih0 _ _ _ _ _ _ _ _)
      | (with_reducible exact LeO.refl _)
      | (with_reducible exact LeO.none _)
      | (with_reducible refine LeO.ite ?_ ?_)
      | (with_reducible refine LeO.bind ?_ (fun _ => ?_))
      | exact ih0 _ _ _ _ _ _ _ _
      | exact LeO.none _
      | refine LeO.ite ?_ ?_
      | refine LeO.bind ?_ (fun _ => ?_)
set_option maxHeartbeats 8000000 in
set_option maxRecDepth 100000 in
theorem drachmref07_Plain.calls (k : Nat) (a0 : Int) (a1 : ByteArray) (r : Bool) (w : World) (h : drachmref07_Plain.f k a0 a1 = some r) :
    Calls Tryd.prog 21 #[.int .i64 a0, .string a1] w fun e w' => e = .returned (.bool r) ∧ Below w.heap.size w w' := by
  have hu25 := Tryd.underlying25
  have HB := Aside0.mk (Below.refl w.heap.size w)
  have H : ((drachmref07_Of.f a0).bind fun bt127 => (drachmref07_Plain.l0 k a1 0 bt127.1 bt127.2.1 bt127.2.2.1 bt127.2.2.2.1 bt127.2.2.2.2.1 bt127.2.2.2.2.2)) = some r := h
  clear h
  replace H := Option.bind_eq_some_iff.mp H
  obtain ⟨⟨t127, t128, t129, t130, t131, t132⟩, A30, H⟩ := H
  replace H : (drachmref07_Plain.l0 k a1 0 t127 t128 t129 t130 t131 t132) = some r := H
  have A3 := Aside0.mk A30
  clear A30
  have H' := Aside0.mk H
  clear H
  go_enter Tryd.func21, Tryd.ntmps21
  go_wp2_with (first | (go_at_call 18; (with_reducible refine (drachmref07_Of.calls a0 t127 t128 t129 t130 t131 t132 _ A3.out).mono ?_); rintro e w4 ⟨rfl, hb⟩; have n0_ := Aside0.mk (below_step (by repeat (first | (with_reducible first | exact HB.out | apply below_alloc | apply pw_below_drewN | apply below_drew1) | exact HB.out)) hb); clear HB; have HB := n0_; clear n0_; (try clear hb); (try clear hb2); (try clear hk); (try clear hi)) | ((with_reducible refine gate_dst (N := 5) rfl ?_); refine box_event ?hg (N := 5) ?hd (cs := #[.bool false, .int .u8 0, .int .u8 0, .int .u8 0, .int .u8 0, .int .u8 0]) (t := 25) ?hr ?_; (case hd => rfl); (case hg => rfl); (case hr => first | (go_simp; done) | (go_simp; rfl)); intro gb133 hg w5 hbox hb; have n0_ := Aside0.mk (below_step (by repeat (first | (with_reducible first | exact HB.out | apply below_alloc | apply pw_below_drewN | apply below_drew1) | exact HB.out)) hb); have n1_ := Aside0.mk (hbox); have n2_ := Aside0.mk ((by rw [hg]; exact (below_size (by repeat (first | (with_reducible first | exact HB.out | apply below_alloc | apply pw_below_drewN | apply below_drew1) | exact HB.out))) : w.heap.size ≤ gb133)); have n3_ := Aside0.mk ((by rw [hg]; exact (below_size (by repeat (first | (with_reducible first | exact HB.out | apply below_alloc | apply pw_below_drewN | apply below_drew1) | exact HB.out))) : w.heap.size ≤ gb133)); clear HB; have HB := n0_; have BK133 := n1_; have GW133 := n2_; have GE133 := n3_; clear n0_ n1_ n2_ n3_; clear hb hbox hg; have hcz6_0 : w5.cell? ⟨gb133, 0, none⟩ = some (.bool false) := (blk_cell BK133.out 0).trans rfl; have hcz6_1 : w5.cell? ⟨gb133, 1, none⟩ = some (.int .u8 0) := (blk_cell BK133.out 1).trans rfl; have hcz6_2 : w5.cell? ⟨gb133, 2, none⟩ = some (.int .u8 0) := (blk_cell BK133.out 2).trans rfl; have hcz6_3 : w5.cell? ⟨gb133, 3, none⟩ = some (.int .u8 0) := (blk_cell BK133.out 3).trans rfl; have hcz6_4 : w5.cell? ⟨gb133, 4, none⟩ = some (.int .u8 0) := (blk_cell BK133.out 4).trans rfl; have hcz6_5 : w5.cell? ⟨gb133, 5, none⟩ = some (.int .u8 0) := (blk_cell BK133.out 5).trans rfl; have hfz6_0 := blk_frozen BK133.out 0; have hfz6_1 := blk_frozen BK133.out 1; have hfz6_2 := blk_frozen BK133.out 2; have hfz6_3 := blk_frozen BK133.out 3; have hfz6_4 := blk_frozen BK133.out 4; have hfz6_5 := blk_frozen BK133.out 5))
  repeat (go_quiet (first | (go_at_call 18; (with_reducible refine (drachmref07_Of.calls a0 t127 t128 t129 t130 t131 t132 _ A3.out).mono ?_); rintro e w4 ⟨rfl, hb⟩; have n0_ := Aside0.mk (below_step (by repeat (first | (with_reducible first | exact HB.out | apply below_alloc | apply pw_below_drewN | apply below_drew1) | exact HB.out)) hb); clear HB; have HB := n0_; clear n0_; (try clear hb); (try clear hb2); (try clear hk); (try clear hi)) | ((with_reducible refine gate_dst (N := 5) rfl ?_); refine box_event ?hg (N := 5) ?hd (cs := #[.bool false, .int .u8 0, .int .u8 0, .int .u8 0, .int .u8 0, .int .u8 0]) (t := 25) ?hr ?_; (case hd => rfl); (case hg => rfl); (case hr => first | (go_simp; done) | (go_simp; rfl)); intro gb133 hg w5 hbox hb; have n0_ := Aside0.mk (below_step (by repeat (first | (with_reducible first | exact HB.out | apply below_alloc | apply pw_below_drewN | apply below_drew1) | exact HB.out)) hb); have n1_ := Aside0.mk (hbox); have n2_ := Aside0.mk ((by rw [hg]; exact (below_size (by repeat (first | (with_reducible first | exact HB.out | apply below_alloc | apply pw_below_drewN | apply below_drew1) | exact HB.out))) : w.heap.size ≤ gb133)); have n3_ := Aside0.mk ((by rw [hg]; exact (below_size (by repeat (first | (with_reducible first | exact HB.out | apply below_alloc | apply pw_below_drewN | apply below_drew1) | exact HB.out))) : w.heap.size ≤ gb133)); clear HB; have HB := n0_; have BK133 := n1_; have GW133 := n2_; have GE133 := n3_; clear n0_ n1_ n2_ n3_; clear hb hbox hg; have hcz6_0 : w5.cell? ⟨gb133, 0, none⟩ = some (.bool false) := (blk_cell BK133.out 0).trans rfl; have hcz6_1 : w5.cell? ⟨gb133, 1, none⟩ = some (.int .u8 0) := (blk_cell BK133.out 1).trans rfl; have hcz6_2 : w5.cell? ⟨gb133, 2, none⟩ = some (.int .u8 0) := (blk_cell BK133.out 2).trans rfl; have hcz6_3 : w5.cell? ⟨gb133, 3, none⟩ = some (.int .u8 0) := (blk_cell BK133.out 3).trans rfl; have hcz6_4 : w5.cell? ⟨gb133, 4, none⟩ = some (.int .u8 0) := (blk_cell BK133.out 4).trans rfl; have hcz6_5 : w5.cell? ⟨gb133, 5, none⟩ = some (.int .u8 0) := (blk_cell BK133.out 5).trans rfl; have hfz6_0 := blk_frozen BK133.out 0; have hfz6_1 := blk_frozen BK133.out 1; have hfz6_2 := blk_frozen BK133.out 2; have hfz6_3 := blk_frozen BK133.out 3; have hfz6_4 := blk_frozen BK133.out 4; have hfz6_5 := blk_frozen BK133.out 5)); try go_wp2_with (first | (go_at_call 18; (with_reducible refine (drachmref07_Of.calls a0 t127 t128 t129 t130 t131 t132 _ A3.out).mono ?_); rintro e w4 ⟨rfl, hb⟩; have n0_ := Aside0.mk (below_step (by repeat (first | (with_reducible first | exact HB.out | apply below_alloc | apply pw_below_drewN | apply below_drew1) | exact HB.out)) hb); clear HB; have HB := n0_; clear n0_; (try clear hb); (try clear hb2); (try clear hk); (try clear hi)) | ((with_reducible refine gate_dst (N := 5) rfl ?_); refine box_event ?hg (N := 5) ?hd (cs := #[.bool false, .int .u8 0, .int .u8 0, .int .u8 0, .int .u8 0, .int .u8 0]) (t := 25) ?hr ?_; (case hd => rfl); (case hg => rfl); (case hr => first | (go_simp; done) | (go_simp; rfl)); intro gb133 hg w5 hbox hb; have n0_ := Aside0.mk (below_step (by repeat (first | (with_reducible first | exact HB.out | apply below_alloc | apply pw_below_drewN | apply below_drew1) | exact HB.out)) hb); have n1_ := Aside0.mk (hbox); have n2_ := Aside0.mk ((by rw [hg]; exact (below_size (by repeat (first | (with_reducible first | exact HB.out | apply below_alloc | apply pw_below_drewN | apply below_drew1) | exact HB.out))) : w.heap.size ≤ gb133)); have n3_ := Aside0.mk ((by rw [hg]; exact (below_size (by repeat (first | (with_reducible first | exact HB.out | apply below_alloc | apply pw_below_drewN | apply below_drew1) | exact HB.out))) : w.heap.size ≤ gb133)); clear HB; have HB := n0_; have BK133 := n1_; have GW133 := n2_; have GE133 := n3_; clear n0_ n1_ n2_ n3_; clear hb hbox hg; have hcz6_0 : w5.cell? ⟨gb133, 0, none⟩ = some (.bool false) := (blk_cell BK133.out 0).trans rfl; have hcz6_1 : w5.cell? ⟨gb133, 1, none⟩ = some (.int .u8 0) := (blk_cell BK133.out 1).trans rfl; have hcz6_2 : w5.cell? ⟨gb133, 2, none⟩ = some (.int .u8 0) := (blk_cell BK133.out 2).trans rfl; have hcz6_3 : w5.cell? ⟨gb133, 3, none⟩ = some (.int .u8 0) := (blk_cell BK133.out 3).trans rfl; have hcz6_4 : w5.cell? ⟨gb133, 4, none⟩ = some (.int .u8 0) := (blk_cell BK133.out 4).trans rfl; have hcz6_5 : w5.cell? ⟨gb133, 5, none⟩ = some (.int .u8 0) := (blk_cell BK133.out 5).trans rfl; have hfz6_0 := blk_frozen BK133.out 0; have hfz6_1 := blk_frozen BK133.out 1; have hfz6_2 := blk_frozen BK133.out 2; have hfz6_3 := blk_frozen BK133.out 3; have hfz6_4 := blk_frozen BK133.out 4; have hfz6_5 := blk_frozen BK133.out 5)))
  go_loopg [6] k (fun kq v6 w' => ∃ (x6_1 : Int), v6 = .int .i64 x6_1 ∧ Aside0 (drachmref07_Plain.l0 kq a1 x6_1 t127 t128 t129 t130 t131 t132 = some r) ∧ Aside0 (kq ≤ k) ∧ Aside0 (w'.heap[gb133]? = some (.cells #[.bool t127, .int .u8 t128, .int .u8 t129, .int .u8 t130, .int .u8 t131, .int .u8 t132] 25 (0, 0))) ∧ Aside0 (Below w.heap.size w w'))
  case atStart => exact ⟨(0), (by first | rfl | (simp; done) | (simp [*]; done)), H', ⟨Nat.le_refl _⟩, ⟨by (with_reducible repeat (first | refine blk_drewN ?_ _ | refine blk_drew ?_ | refine blk_alloc ?_ _)); refine blk_put (cs := #[.bool t127, .int .u8 t128, .int .u8 t129, .int .u8 t130, .int .u8 t131, .int .u8 0]) ?_ 5 _ rfl; (with_reducible repeat (first | refine blk_drewN ?_ _ | refine blk_drew ?_ | refine blk_alloc ?_ _)); refine blk_put (cs := #[.bool t127, .int .u8 t128, .int .u8 t129, .int .u8 t130, .int .u8 0, .int .u8 0]) ?_ 4 _ rfl; (with_reducible repeat (first | refine blk_drewN ?_ _ | refine blk_drew ?_ | refine blk_alloc ?_ _)); refine blk_put (cs := #[.bool t127, .int .u8 t128, .int .u8 t129, .int .u8 0, .int .u8 0, .int .u8 0]) ?_ 3 _ rfl; (with_reducible repeat (first | refine blk_drewN ?_ _ | refine blk_drew ?_ | refine blk_alloc ?_ _)); refine blk_put (cs := #[.bool t127, .int .u8 t128, .int .u8 0, .int .u8 0, .int .u8 0, .int .u8 0]) ?_ 2 _ rfl; (with_reducible repeat (first | refine blk_drewN ?_ _ | refine blk_drew ?_ | refine blk_alloc ?_ _)); refine blk_put (cs := #[.bool t127, .int .u8 0, .int .u8 0, .int .u8 0, .int .u8 0, .int .u8 0]) ?_ 1 _ rfl; (with_reducible repeat (first | refine blk_drewN ?_ _ | refine blk_drew ?_ | refine blk_alloc ?_ _)); refine blk_put (cs := #[.bool false, .int .u8 0, .int .u8 0, .int .u8 0, .int .u8 0, .int .u8 0]) ?_ 0 _ rfl; (with_reducible repeat (first | refine blk_drewN ?_ _ | refine blk_drew ?_ | refine blk_alloc ?_ _)); exact BK133.out⟩, ⟨by repeat (first | (with_reducible first | exact HB.out | apply below_alloc | apply pw_below_drewN | apply below_drew1 | refine below_set ?_ GE133.out) | exact HB.out)⟩⟩
  case round =>
    clear H'
    try clear c2
    try clear p2
    try clear hcz6_0
    try clear hcz6_1
    try clear hcz6_2
    try clear hcz6_3
    try clear hcz6_4
    try clear hcz6_5
    try clear hfz6_0
    try clear hfz6_1
    try clear hfz6_2
    try clear hfz6_3
    try clear hfz6_4
    try clear hfz6_5
    obtain ⟨x6_1, rfl, HA, HK1, BK133, HB⟩ := hrel
    cases gk with
    | zero => exact absurd HA.out (by simp [drachmref07_Plain.l0])
    | succ k1 =>
      have H := HA.out
      clear HA
      simp only [drachmref07_Plain.l0] at H
      by_cases c7 : x6_1 < (a1.size : Int)
      · rw [if_pos c7] at H
        have c7b0 : decide (x6_1 < (a1.size : Int)) = true := decide_eq_true c7
        clear c7
        by_cases c8 : 0 ≤ x6_1
        · rw [if_pos c8] at H
          have c8b0 : decide (0 ≤ x6_1) = true := decide_eq_true c8
          clear c8
          by_cases c10 : (bt a1 x6_1) < 32
          · rw [if_pos c10] at H
            have c10b0 : decide ((bt a1 x6_1) < 32) = true := decide_eq_true c10
            clear c10
            obtain rfl := Option.some.inj H
            have p9 : 0 ≤ (x6_1 : Int) := of_decide_eq_true (by first | (with_reducible assumption) | assumption)
            have q9 : x6_1 < (a1.size : Int) := of_decide_eq_true (by first | (with_reducible assumption) | assumption)
            have hx9 := bt_at a1 x6_1
            replace p9 := eq_true p9
            replace q9 := eq_true q9
            go_wp2
            repeat (go_quiet (fail); try go_wp2)
            go_ret
            exact ⟨by first | rfl | (simp [errW_none, errW_some] <;> rfl) | (simp [*, errW_none, errW_some] <;> rfl), by repeat (first | (with_reducible first | exact HB.out | apply below_alloc | apply pw_below_drewN | apply below_drew1 | refine below_set ?_ GE133.out) | exact HB.out)⟩
          · rw [if_neg c10] at H
            have c10b0 : decide ((bt a1 x6_1) < 32) = false := decide_eq_false c10
            clear c10
            by_cases c12 : (bt a1 x6_1) > 126
            · rw [if_pos c12] at H
              have c12b0 : decide (126 < (bt a1 x6_1)) = true := decide_eq_true c12
              clear c12
              obtain rfl := Option.some.inj H
              have p9 : 0 ≤ (x6_1 : Int) := of_decide_eq_true (by first | (with_reducible assumption) | assumption)
              have q9 : x6_1 < (a1.size : Int) := of_decide_eq_true (by first | (with_reducible assumption) | assumption)
              have hx9 := bt_at a1 x6_1
              replace p9 := eq_true p9
              replace q9 := eq_true q9
              have p11 : 0 ≤ (x6_1 : Int) := of_decide_eq_true (by first | (with_reducible assumption) | assumption)
              have q11 : x6_1 < (a1.size : Int) := of_decide_eq_true (by first | (with_reducible assumption) | assumption)
              have hx11 := bt_at a1 x6_1
              replace p11 := eq_true p11
              replace q11 := eq_true q11
              go_wp2
              repeat (go_quiet (fail); try go_wp2)
              go_ret
              exact ⟨by first | rfl | (simp [errW_none, errW_some] <;> rfl) | (simp [*, errW_none, errW_some] <;> rfl), by repeat (first | (with_reducible first | exact HB.out | apply below_alloc | apply pw_below_drewN | apply below_drew1 | refine below_set ?_ GE133.out) | exact HB.out)⟩
            · rw [if_neg c12] at H
              have c12b0 : decide (126 < (bt a1 x6_1)) = false := decide_eq_false c12
              clear c12
              by_cases c14 : (bt a1 x6_1) = t131
              · rw [if_pos c14] at H
                have c14b0 : ((bt a1 x6_1) == t131) = true := beq_iff_eq.mpr c14
                have c14b1 : ((bt a1 x6_1) != t131) = false := bne_eq_false_iff_eq.mpr c14
                clear c14
                obtain rfl := Option.some.inj H
                have p9 : 0 ≤ (x6_1 : Int) := of_decide_eq_true (by first | (with_reducible assumption) | assumption)
                have q9 : x6_1 < (a1.size : Int) := of_decide_eq_true (by first | (with_reducible assumption) | assumption)
                have hx9 := bt_at a1 x6_1
                replace p9 := eq_true p9
                replace q9 := eq_true q9
                have p11 : 0 ≤ (x6_1 : Int) := of_decide_eq_true (by first | (with_reducible assumption) | assumption)
                have q11 : x6_1 < (a1.size : Int) := of_decide_eq_true (by first | (with_reducible assumption) | assumption)
                have hx11 := bt_at a1 x6_1
                replace p11 := eq_true p11
                replace q11 := eq_true q11
                have p13 : 0 ≤ (x6_1 : Int) := of_decide_eq_true (by first | (with_reducible assumption) | assumption)
                have q13 : x6_1 < (a1.size : Int) := of_decide_eq_true (by first | (with_reducible assumption) | assumption)
                have hx13 := bt_at a1 x6_1
                replace p13 := eq_true p13
                replace q13 := eq_true q13
                have hcz15_0 : wr.cell? ⟨gb133, 0, none⟩ = some (.bool t127) := (blk_cell BK133.out 0).trans rfl
                have hcz15_1 : wr.cell? ⟨gb133, 1, none⟩ = some (.int .u8 t128) := (blk_cell BK133.out 1).trans rfl
                have hcz15_2 : wr.cell? ⟨gb133, 2, none⟩ = some (.int .u8 t129) := (blk_cell BK133.out 2).trans rfl
                have hcz15_3 : wr.cell? ⟨gb133, 3, none⟩ = some (.int .u8 t130) := (blk_cell BK133.out 3).trans rfl
                have hcz15_4 : wr.cell? ⟨gb133, 4, none⟩ = some (.int .u8 t131) := (blk_cell BK133.out 4).trans rfl
                have hcz15_5 : wr.cell? ⟨gb133, 5, none⟩ = some (.int .u8 t132) := (blk_cell BK133.out 5).trans rfl
                have hfz15_0 := blk_frozen BK133.out 0
                have hfz15_1 := blk_frozen BK133.out 1
                have hfz15_2 := blk_frozen BK133.out 2
                have hfz15_3 := blk_frozen BK133.out 3
                have hfz15_4 := blk_frozen BK133.out 4
                have hfz15_5 := blk_frozen BK133.out 5
                go_wp2
                repeat (go_quiet (fail); try go_wp2)
                go_ret
                exact ⟨by first | rfl | (simp [errW_none, errW_some] <;> rfl) | (simp [*, errW_none, errW_some] <;> rfl), by repeat (first | (with_reducible first | exact HB.out | apply below_alloc | apply pw_below_drewN | apply below_drew1 | refine below_set ?_ GE133.out) | exact HB.out)⟩
              · rw [if_neg c14] at H
                have c14b0 : ((bt a1 x6_1) == t131) = false := beq_eq_false_iff_ne.mpr c14
                have c14b1 : ((bt a1 x6_1) != t131) = true := bne_iff_ne.mpr c14
                by_cases c17 : (bt a1 x6_1) = t132
                · rw [if_pos c17] at H
                  have c17b0 : ((bt a1 x6_1) == t132) = true := beq_iff_eq.mpr c17
                  have c17b1 : ((bt a1 x6_1) != t132) = false := bne_eq_false_iff_eq.mpr c17
                  clear c17
                  obtain rfl := Option.some.inj H
                  have p9 : 0 ≤ (x6_1 : Int) := of_decide_eq_true (by first | (with_reducible assumption) | assumption)
                  have q9 : x6_1 < (a1.size : Int) := of_decide_eq_true (by first | (with_reducible assumption) | assumption)
                  have hx9 := bt_at a1 x6_1
                  replace p9 := eq_true p9
                  replace q9 := eq_true q9
                  have p11 : 0 ≤ (x6_1 : Int) := of_decide_eq_true (by first | (with_reducible assumption) | assumption)
                  have q11 : x6_1 < (a1.size : Int) := of_decide_eq_true (by first | (with_reducible assumption) | assumption)
                  have hx11 := bt_at a1 x6_1
                  replace p11 := eq_true p11
                  replace q11 := eq_true q11
                  have p13 : 0 ≤ (x6_1 : Int) := of_decide_eq_true (by first | (with_reducible assumption) | assumption)
                  have q13 : x6_1 < (a1.size : Int) := of_decide_eq_true (by first | (with_reducible assumption) | assumption)
                  have hx13 := bt_at a1 x6_1
                  replace p13 := eq_true p13
                  replace q13 := eq_true q13
                  have hcz18_0 : wr.cell? ⟨gb133, 0, none⟩ = some (.bool t127) := (blk_cell BK133.out 0).trans rfl
                  have hcz18_1 : wr.cell? ⟨gb133, 1, none⟩ = some (.int .u8 t128) := (blk_cell BK133.out 1).trans rfl
                  have hcz18_2 : wr.cell? ⟨gb133, 2, none⟩ = some (.int .u8 t129) := (blk_cell BK133.out 2).trans rfl
                  have hcz18_3 : wr.cell? ⟨gb133, 3, none⟩ = some (.int .u8 t130) := (blk_cell BK133.out 3).trans rfl
                  have hcz18_4 : wr.cell? ⟨gb133, 4, none⟩ = some (.int .u8 t131) := (blk_cell BK133.out 4).trans rfl
                  have hcz18_5 : wr.cell? ⟨gb133, 5, none⟩ = some (.int .u8 t132) := (blk_cell BK133.out 5).trans rfl
                  have hfz18_0 := blk_frozen BK133.out 0
                  have hfz18_1 := blk_frozen BK133.out 1
                  have hfz18_2 := blk_frozen BK133.out 2
                  have hfz18_3 := blk_frozen BK133.out 3
                  have hfz18_4 := blk_frozen BK133.out 4
                  have hfz18_5 := blk_frozen BK133.out 5
                  have p16 : 0 ≤ (x6_1 : Int) := of_decide_eq_true (by first | (with_reducible assumption) | assumption)
                  have q16 : x6_1 < (a1.size : Int) := of_decide_eq_true (by first | (with_reducible assumption) | assumption)
                  have hx16 := bt_at a1 x6_1
                  replace p16 := eq_true p16
                  replace q16 := eq_true q16
                  go_wp2
                  repeat (go_quiet (fail); try go_wp2)
                  go_ret
                  exact ⟨by first | rfl | (simp [errW_none, errW_some] <;> rfl) | (simp [*, errW_none, errW_some] <;> rfl), by repeat (first | (with_reducible first | exact HB.out | apply below_alloc | apply pw_below_drewN | apply below_drew1 | refine below_set ?_ GE133.out) | exact HB.out)⟩
                · rw [if_neg c17] at H
                  have c17b0 : ((bt a1 x6_1) == t132) = false := beq_eq_false_iff_ne.mpr c17
                  have c17b1 : ((bt a1 x6_1) != t132) = true := bne_iff_ne.mpr c17
                  have H' := Aside0.mk H
                  clear H
                  have p9 : 0 ≤ (x6_1 : Int) := of_decide_eq_true (by first | (with_reducible assumption) | assumption)
                  have q9 : x6_1 < (a1.size : Int) := of_decide_eq_true (by first | (with_reducible assumption) | assumption)
                  have hx9 := bt_at a1 x6_1
                  replace p9 := eq_true p9
                  replace q9 := eq_true q9
                  have p11 : 0 ≤ (x6_1 : Int) := of_decide_eq_true (by first | (with_reducible assumption) | assumption)
                  have q11 : x6_1 < (a1.size : Int) := of_decide_eq_true (by first | (with_reducible assumption) | assumption)
                  have hx11 := bt_at a1 x6_1
                  replace p11 := eq_true p11
                  replace q11 := eq_true q11
                  have p13 : 0 ≤ (x6_1 : Int) := of_decide_eq_true (by first | (with_reducible assumption) | assumption)
                  have q13 : x6_1 < (a1.size : Int) := of_decide_eq_true (by first | (with_reducible assumption) | assumption)
                  have hx13 := bt_at a1 x6_1
                  replace p13 := eq_true p13
                  replace q13 := eq_true q13
                  have hcz19_0 : wr.cell? ⟨gb133, 0, none⟩ = some (.bool t127) := (blk_cell BK133.out 0).trans rfl
                  have hcz19_1 : wr.cell? ⟨gb133, 1, none⟩ = some (.int .u8 t128) := (blk_cell BK133.out 1).trans rfl
                  have hcz19_2 : wr.cell? ⟨gb133, 2, none⟩ = some (.int .u8 t129) := (blk_cell BK133.out 2).trans rfl
                  have hcz19_3 : wr.cell? ⟨gb133, 3, none⟩ = some (.int .u8 t130) := (blk_cell BK133.out 3).trans rfl
                  have hcz19_4 : wr.cell? ⟨gb133, 4, none⟩ = some (.int .u8 t131) := (blk_cell BK133.out 4).trans rfl
                  have hcz19_5 : wr.cell? ⟨gb133, 5, none⟩ = some (.int .u8 t132) := (blk_cell BK133.out 5).trans rfl
                  have hfz19_0 := blk_frozen BK133.out 0
                  have hfz19_1 := blk_frozen BK133.out 1
                  have hfz19_2 := blk_frozen BK133.out 2
                  have hfz19_3 := blk_frozen BK133.out 3
                  have hfz19_4 := blk_frozen BK133.out 4
                  have hfz19_5 := blk_frozen BK133.out 5
                  have p16 : 0 ≤ (x6_1 : Int) := of_decide_eq_true (by first | (with_reducible assumption) | assumption)
                  have q16 : x6_1 < (a1.size : Int) := of_decide_eq_true (by first | (with_reducible assumption) | assumption)
                  have hx16 := bt_at a1 x6_1
                  replace p16 := eq_true p16
                  replace q16 := eq_true q16
                  go_wp2
                  repeat (go_quiet (fail); try go_wp2)
                  go_roundg k1
                  case measure => have := HK1.out; omega
                  case rel => exact ⟨(wrap64 (x6_1 + 1)), (by first | rfl | (simp; done) | (simp [*]; done)), H', ⟨by have := HK1.out; omega⟩, ⟨by (with_reducible repeat (first | refine blk_drewN ?_ _ | refine blk_drew ?_ | refine blk_alloc ?_ _)); exact BK133.out⟩, ⟨by repeat (first | (with_reducible first | exact HB.out | apply below_alloc | apply pw_below_drewN | apply below_drew1 | refine below_set ?_ GE133.out) | exact HB.out)⟩⟩
        · rw [if_neg c8] at H
          exact absurd H (by simp)
      · rw [if_neg c7] at H
        have c7b0 : decide (x6_1 < (a1.size : Int)) = false := decide_eq_false c7
        clear c7
        obtain rfl := Option.some.inj H
        have hcz20_0 : wr.cell? ⟨gb133, 0, none⟩ = some (.bool t127) := (blk_cell BK133.out 0).trans rfl
        have hcz20_1 : wr.cell? ⟨gb133, 1, none⟩ = some (.int .u8 t128) := (blk_cell BK133.out 1).trans rfl
        have hcz20_2 : wr.cell? ⟨gb133, 2, none⟩ = some (.int .u8 t129) := (blk_cell BK133.out 2).trans rfl
        have hcz20_3 : wr.cell? ⟨gb133, 3, none⟩ = some (.int .u8 t130) := (blk_cell BK133.out 3).trans rfl
        have hcz20_4 : wr.cell? ⟨gb133, 4, none⟩ = some (.int .u8 t131) := (blk_cell BK133.out 4).trans rfl
        have hcz20_5 : wr.cell? ⟨gb133, 5, none⟩ = some (.int .u8 t132) := (blk_cell BK133.out 5).trans rfl
        have hfz20_0 := blk_frozen BK133.out 0
        have hfz20_1 := blk_frozen BK133.out 1
        have hfz20_2 := blk_frozen BK133.out 2
        have hfz20_3 := blk_frozen BK133.out 3
        have hfz20_4 := blk_frozen BK133.out 4
        have hfz20_5 := blk_frozen BK133.out 5
        go_wp2
        repeat (go_quiet (fail); try go_wp2)
        go_ret
        exact ⟨by first | rfl | (simp [errW_none, errW_some] <;> rfl) | (simp [*, errW_none, errW_some] <;> rfl), by repeat (first | (with_reducible first | exact HB.out | apply below_alloc | apply pw_below_drewN | apply below_drew1 | refine below_set ?_ GE133.out) | exact HB.out)⟩

end Go.Proofs.YtgcaelopcdpkgaaDoor.PBase
