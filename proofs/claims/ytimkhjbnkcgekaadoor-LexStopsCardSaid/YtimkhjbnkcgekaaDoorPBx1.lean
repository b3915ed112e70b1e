/- Printed by a program of this session (wip/tools/prt.py) out of the translation: plain functions, and that the calls come to just them. No conditions beyond those that stand in each theorem. -/
import Derived.Test.YtimkhjbnkcgekaaDoorGlob
import Derived.Test.YtimkhjbnkcgekaaDoorPBx0
namespace Go.Proofs.YtimkhjbnkcgekaaDoor.PB
open Go.Proofs.YtimkhjbnkcgekaaDoor.Sq Go.RowKit Go.Proofs.YtimkhjbnkcgekaaDoorW.PrintWords Go.Proofs.YtimkhjbnkcgekaaDoorW.PrintLast Go.Proofs.YtimkhjbnkcgekaaDoorW.PrintMore
attribute [local go_sem] max2_int min2_int max_two min_two max_three min_three max_four min_four   -- for this text's walks alone
set_option linter.unusedVariables false
set_option linter.unusedSimpArgs false

/-! ### drachmref07_Of: function 17 -/
def drachmref07_Of.f (a0 : Int) : Option (Bool × Int × Int × Int × Int × Int) := if a0 = 1 then (some (false, 46, 47, 0, 123, 125)) else (if a0 = 2 then (some (true, 46, 47, 0, 123, 125)) else (if a0 = 3 then (some (false, 42, 47, 94, 60, 62)) else (if a0 = 4 then (some (true, 46, 47, 0, 0, 0)) else (if a0 = 5 then (some (false, 46, 47, 94, 0, 0)) else (some (false, 0, 0, 0, 0, 0))))))
set_option maxHeartbeats 8000000 in
set_option maxRecDepth 100000 in
theorem drachmref07_Of.calls (a0 : Int) (r1 : Bool) (r2 : Int) (r3 : Int) (r4 : Int) (r5 : Int) (r6 : Int) (w : World) (h : drachmref07_Of.f a0 = some (r1, r2, r3, r4, r5, r6)) :
  Calls Tryd.prog 17 #[.int .i64 a0] w fun e w' => e = .returned (.agg #[.bool r1, .int .u8 r2, .int .u8 r3, .int .u8 r4, .int .u8 r5, .int .u8 r6]) ∧ Below w.heap.size w w' := by
 have hu38 := Tryd.underlying38
 have HB := Aside0.mk (Below.refl w.heap.size w)
 have H : (if a0 = 1 then (some (false, 46, 47, 0, 123, 125)) else (if a0 = 2 then (some (true, 46, 47, 0, 123, 125)) else (if a0 = 3 then (some (false, 42, 47, 94, 60, 62)) else (if a0 = 4 then (some (true, 46, 47, 0, 0, 0)) else (if a0 = 5 then (some (false, 46, 47, 94, 0, 0)) else (some (false, 0, 0, 0, 0, 0))))))) = some (r1, r2, r3, r4, r5, r6) := h
 clear h
 by_cases c2 : a0 = 1
 ·rw [if_pos c2] at H
  have c2b0 : (a0 == 1) = true := beq_iff_eq.mpr c2
  have c2b1 : (a0 != 1) = false := bne_eq_false_iff_eq.mpr c2
  clear c2
  simp only [Option.some.injEq, Prod.mk.injEq] at H
  obtain ⟨rfl, rfl, rfl, rfl, rfl, rfl⟩ := H
  go_enter Tryd.func17, Tryd.ntmps17
  go_wp2_with (first | ((with_reducible refine gate_dst (N := 2) rfl ?_); refine box_event ?hg (N := 2) ?hd (cs := #[.bool false, .int .u8 0, .int .u8 0, .int .u8 0, .int .u8 0, .int .u8 0]) (t := 38) ?hr ?_; (case hd => rfl); (case hg => rfl); (case hr => first | (go_simp; done) | (go_simp; rfl)); intro gb101 hg w3 hbox hb; have n0_ := sb HB hb; have n1_ := Aside0.mk (hbox); have n2_ := Aside0.mk ((by rw [hg]; exact (below_size (bl HB.out)) : w.heap.size ≤ gb101)); have n3_ := Aside0.mk ((by rw [hg]; exact (below_size (bl HB.out)) : w.heap.size ≤ gb101)); clear HB; have HB := n0_; have BK101 := n1_; have GW101 := n2_; have GE101 := n3_; clear n0_ n1_ n2_ n3_; clear hb hbox hg; have hcz4_0 : w3.cell? ⟨gb101, 0, none⟩ = some (.bool false) := (blk_cell BK101.out 0).trans rfl; have hcz4_1 : w3.cell? ⟨gb101, 1, none⟩ = some (.int .u8 0) := (blk_cell BK101.out 1).trans rfl; have hcz4_2 : w3.cell? ⟨gb101, 2, none⟩ = some (.int .u8 0) := (blk_cell BK101.out 2).trans rfl; have hcz4_3 : w3.cell? ⟨gb101, 3, none⟩ = some (.int .u8 0) := (blk_cell BK101.out 3).trans rfl; have hcz4_4 : w3.cell? ⟨gb101, 4, none⟩ = some (.int .u8 0) := (blk_cell BK101.out 4).trans rfl; have hcz4_5 : w3.cell? ⟨gb101, 5, none⟩ = some (.int .u8 0) := (blk_cell BK101.out 5).trans rfl; have hfz4_0 := blk_frozen BK101.out 0; have hfz4_1 := blk_frozen BK101.out 1; have hfz4_2 := blk_frozen BK101.out 2; have hfz4_3 := blk_frozen BK101.out 3; have hfz4_4 := blk_frozen BK101.out 4; have hfz4_5 := blk_frozen BK101.out 5))
  refine bodyPost_ret (results_cell_row rfl _ _ gb101 38 #[.bool false, .int .u8 46, .int .u8 47, .int .u8 0, .int .u8 123, .int .u8 125] (0, 0) _ rfl (kp (p6_5 (kp (p6_4 (kp (p6_3 (kp (p6_2 (kp (p6_1 (kp (p6_0 (kp BK101.out))))))))))))) Tryd.underlying38 rfl (by kernel_rfl)) rfl ?_
  exact ⟨by first | rfl | (simp [errW_none, errW_some] <;> rfl) | (simp [*, errW_none, errW_some] <;> rfl), bl HB.out⟩
 ·rw [if_neg c2] at H
  have c2b0 : (a0 == 1) = false := beq_eq_false_iff_ne.mpr c2
  have c2b1 : (a0 != 1) = true := bne_iff_ne.mpr c2
  by_cases c5 : a0 = 2
  ·rw [if_pos c5] at H
   have c5b0 : (a0 == 2) = true := beq_iff_eq.mpr c5
   have c5b1 : (a0 != 2) = false := bne_eq_false_iff_eq.mpr c5
   clear c5
   simp only [Option.some.injEq, Prod.mk.injEq] at H
   obtain ⟨rfl, rfl, rfl, rfl, rfl, rfl⟩ := H
   go_enter Tryd.func17, Tryd.ntmps17
   go_wp2_with (first | ((with_reducible refine gate_dst (N := 2) rfl ?_); refine box_event ?hg (N := 2) ?hd (cs := #[.bool false, .int .u8 0, .int .u8 0, .int .u8 0, .int .u8 0, .int .u8 0]) (t := 38) ?hr ?_; (case hd => rfl); (case hg => rfl); (case hr => first | (go_simp; done) | (go_simp; rfl)); intro gb101 hg w6 hbox hb; have n0_ := sb HB hb; have n1_ := Aside0.mk (hbox); have n2_ := Aside0.mk ((by rw [hg]; exact (below_size (bl HB.out)) : w.heap.size ≤ gb101)); have n3_ := Aside0.mk ((by rw [hg]; exact (below_size (bl HB.out)) : w.heap.size ≤ gb101)); clear HB; have HB := n0_; have BK101 := n1_; have GW101 := n2_; have GE101 := n3_; clear n0_ n1_ n2_ n3_; clear hb hbox hg; have hcz7_0 : w6.cell? ⟨gb101, 0, none⟩ = some (.bool false) := (blk_cell BK101.out 0).trans rfl; have hcz7_1 : w6.cell? ⟨gb101, 1, none⟩ = some (.int .u8 0) := (blk_cell BK101.out 1).trans rfl; have hcz7_2 : w6.cell? ⟨gb101, 2, none⟩ = some (.int .u8 0) := (blk_cell BK101.out 2).trans rfl; have hcz7_3 : w6.cell? ⟨gb101, 3, none⟩ = some (.int .u8 0) := (blk_cell BK101.out 3).trans rfl; have hcz7_4 : w6.cell? ⟨gb101, 4, none⟩ = some (.int .u8 0) := (blk_cell BK101.out 4).trans rfl; have hcz7_5 : w6.cell? ⟨gb101, 5, none⟩ = some (.int .u8 0) := (blk_cell BK101.out 5).trans rfl; have hfz7_0 := blk_frozen BK101.out 0; have hfz7_1 := blk_frozen BK101.out 1; have hfz7_2 := blk_frozen BK101.out 2; have hfz7_3 := blk_frozen BK101.out 3; have hfz7_4 := blk_frozen BK101.out 4; have hfz7_5 := blk_frozen BK101.out 5))
   refine bodyPost_ret (results_cell_row rfl _ _ gb101 38 #[.bool true, .int .u8 46, .int .u8 47, .int .u8 0, .int .u8 123, .int .u8 125] (0, 0) _ rfl (kp (p6_5 (kp (p6_4 (kp (p6_3 (kp (p6_2 (kp (p6_1 (kp (p6_0 (kp BK101.out))))))))))))) Tryd.underlying38 rfl (by kernel_rfl)) rfl ?_
   exact ⟨by first | rfl | (simp [errW_none, errW_some] <;> rfl) | (simp [*, errW_none, errW_some] <;> rfl), bl HB.out⟩
  ·rw [if_neg c5] at H
   have c5b0 : (a0 == 2) = false := beq_eq_false_iff_ne.mpr c5
   have c5b1 : (a0 != 2) = true := bne_iff_ne.mpr c5
   by_cases c8 : a0 = 3
   ·rw [if_pos c8] at H
    have c8b0 : (a0 == 3) = true := beq_iff_eq.mpr c8
    have c8b1 : (a0 != 3) = false := bne_eq_false_iff_eq.mpr c8
    clear c8
    simp only [Option.some.injEq, Prod.mk.injEq] at H
    obtain ⟨rfl, rfl, rfl, rfl, rfl, rfl⟩ := H
    go_enter Tryd.func17, Tryd.ntmps17
    go_wp2_with (first | ((with_reducible refine gate_dst (N := 2) rfl ?_); refine box_event ?hg (N := 2) ?hd (cs := #[.bool false, .int .u8 0, .int .u8 0, .int .u8 0, .int .u8 0, .int .u8 0]) (t := 38) ?hr ?_; (case hd => rfl); (case hg => rfl); (case hr => first | (go_simp; done) | (go_simp; rfl)); intro gb101 hg w9 hbox hb; have n0_ := sb HB hb; have n1_ := Aside0.mk (hbox); have n2_ := Aside0.mk ((by rw [hg]; exact (below_size (bl HB.out)) : w.heap.size ≤ gb101)); have n3_ := Aside0.mk ((by rw [hg]; exact (below_size (bl HB.out)) : w.heap.size ≤ gb101)); clear HB; have HB := n0_; have BK101 := n1_; have GW101 := n2_; have GE101 := n3_; clear n0_ n1_ n2_ n3_; clear hb hbox hg; have hcz10_0 : w9.cell? ⟨gb101, 0, none⟩ = some (.bool false) := (blk_cell BK101.out 0).trans rfl; have hcz10_1 : w9.cell? ⟨gb101, 1, none⟩ = some (.int .u8 0) := (blk_cell BK101.out 1).trans rfl; have hcz10_2 : w9.cell? ⟨gb101, 2, none⟩ = some (.int .u8 0) := (blk_cell BK101.out 2).trans rfl; have hcz10_3 : w9.cell? ⟨gb101, 3, none⟩ = some (.int .u8 0) := (blk_cell BK101.out 3).trans rfl; have hcz10_4 : w9.cell? ⟨gb101, 4, none⟩ = some (.int .u8 0) := (blk_cell BK101.out 4).trans rfl; have hcz10_5 : w9.cell? ⟨gb101, 5, none⟩ = some (.int .u8 0) := (blk_cell BK101.out 5).trans rfl; have hfz10_0 := blk_frozen BK101.out 0; have hfz10_1 := blk_frozen BK101.out 1; have hfz10_2 := blk_frozen BK101.out 2; have hfz10_3 := blk_frozen BK101.out 3; have hfz10_4 := blk_frozen BK101.out 4; have hfz10_5 := blk_frozen BK101.out 5))
    refine bodyPost_ret (results_cell_row rfl _ _ gb101 38 #[.bool false, .int .u8 42, .int .u8 47, .int .u8 94, .int .u8 60, .int .u8 62] (0, 0) _ rfl (kp (p6_5 (kp (p6_4 (kp (p6_3 (kp (p6_2 (kp (p6_1 (kp (p6_0 (kp BK101.out))))))))))))) Tryd.underlying38 rfl (by kernel_rfl)) rfl ?_
    exact ⟨by first | rfl | (simp [errW_none, errW_some] <;> rfl) | (simp [*, errW_none, errW_some] <;> rfl), bl HB.out⟩
   ·rw [if_neg c8] at H
    have c8b0 : (a0 == 3) = false := beq_eq_false_iff_ne.mpr c8
    have c8b1 : (a0 != 3) = true := bne_iff_ne.mpr c8
    by_cases c11 : a0 = 4
    ·rw [if_pos c11] at H
     have c11b0 : (a0 == 4) = true := beq_iff_eq.mpr c11
     have c11b1 : (a0 != 4) = false := bne_eq_false_iff_eq.mpr c11
     clear c11
     simp only [Option.some.injEq, Prod.mk.injEq] at H
     obtain ⟨rfl, rfl, rfl, rfl, rfl, rfl⟩ := H
     go_enter Tryd.func17, Tryd.ntmps17
     go_wp2_with (first | ((with_reducible refine gate_dst (N := 2) rfl ?_); refine box_event ?hg (N := 2) ?hd (cs := #[.bool false, .int .u8 0, .int .u8 0, .int .u8 0, .int .u8 0, .int .u8 0]) (t := 38) ?hr ?_; (case hd => rfl); (case hg => rfl); (case hr => first | (go_simp; done) | (go_simp; rfl)); intro gb101 hg w12 hbox hb; have n0_ := sb HB hb; have n1_ := Aside0.mk (hbox); have n2_ := Aside0.mk ((by rw [hg]; exact (below_size (bl HB.out)) : w.heap.size ≤ gb101)); have n3_ := Aside0.mk ((by rw [hg]; exact (below_size (bl HB.out)) : w.heap.size ≤ gb101)); clear HB; have HB := n0_; have BK101 := n1_; have GW101 := n2_; have GE101 := n3_; clear n0_ n1_ n2_ n3_; clear hb hbox hg; have hcz13_0 : w12.cell? ⟨gb101, 0, none⟩ = some (.bool false) := (blk_cell BK101.out 0).trans rfl; have hcz13_1 : w12.cell? ⟨gb101, 1, none⟩ = some (.int .u8 0) := (blk_cell BK101.out 1).trans rfl; have hcz13_2 : w12.cell? ⟨gb101, 2, none⟩ = some (.int .u8 0) := (blk_cell BK101.out 2).trans rfl; have hcz13_3 : w12.cell? ⟨gb101, 3, none⟩ = some (.int .u8 0) := (blk_cell BK101.out 3).trans rfl; have hcz13_4 : w12.cell? ⟨gb101, 4, none⟩ = some (.int .u8 0) := (blk_cell BK101.out 4).trans rfl; have hcz13_5 : w12.cell? ⟨gb101, 5, none⟩ = some (.int .u8 0) := (blk_cell BK101.out 5).trans rfl; have hfz13_0 := blk_frozen BK101.out 0; have hfz13_1 := blk_frozen BK101.out 1; have hfz13_2 := blk_frozen BK101.out 2; have hfz13_3 := blk_frozen BK101.out 3; have hfz13_4 := blk_frozen BK101.out 4; have hfz13_5 := blk_frozen BK101.out 5))
     refine bodyPost_ret (results_cell_row rfl _ _ gb101 38 #[.bool true, .int .u8 46, .int .u8 47, .int .u8 0, .int .u8 0, .int .u8 0] (0, 0) _ rfl (kp (p6_5 (kp (p6_4 (kp (p6_3 (kp (p6_2 (kp (p6_1 (kp (p6_0 (kp BK101.out))))))))))))) Tryd.underlying38 rfl (by kernel_rfl)) rfl ?_
     exact ⟨by first | rfl | (simp [errW_none, errW_some] <;> rfl) | (simp [*, errW_none, errW_some] <;> rfl), bl HB.out⟩
    ·rw [if_neg c11] at H
     have c11b0 : (a0 == 4) = false := beq_eq_false_iff_ne.mpr c11
     have c11b1 : (a0 != 4) = true := bne_iff_ne.mpr c11
     by_cases c14 : a0 = 5
     ·rw [if_pos c14] at H
      have c14b0 : (a0 == 5) = true := beq_iff_eq.mpr c14
      have c14b1 : (a0 != 5) = false := bne_eq_false_iff_eq.mpr c14
      clear c14
      simp only [Option.some.injEq, Prod.mk.injEq] at H
      obtain ⟨rfl, rfl, rfl, rfl, rfl, rfl⟩ := H
      go_enter Tryd.func17, Tryd.ntmps17
      go_wp2_with (first | ((with_reducible refine gate_dst (N := 2) rfl ?_); refine box_event ?hg (N := 2) ?hd (cs := #[.bool false, .int .u8 0, .int .u8 0, .int .u8 0, .int .u8 0, .int .u8 0]) (t := 38) ?hr ?_; (case hd => rfl); (case hg => rfl); (case hr => first | (go_simp; done) | (go_simp; rfl)); intro gb101 hg w15 hbox hb; have n0_ := sb HB hb; have n1_ := Aside0.mk (hbox); have n2_ := Aside0.mk ((by rw [hg]; exact (below_size (bl HB.out)) : w.heap.size ≤ gb101)); have n3_ := Aside0.mk ((by rw [hg]; exact (below_size (bl HB.out)) : w.heap.size ≤ gb101)); clear HB; have HB := n0_; have BK101 := n1_; have GW101 := n2_; have GE101 := n3_; clear n0_ n1_ n2_ n3_; clear hb hbox hg; have hcz16_0 : w15.cell? ⟨gb101, 0, none⟩ = some (.bool false) := (blk_cell BK101.out 0).trans rfl; have hcz16_1 : w15.cell? ⟨gb101, 1, none⟩ = some (.int .u8 0) := (blk_cell BK101.out 1).trans rfl; have hcz16_2 : w15.cell? ⟨gb101, 2, none⟩ = some (.int .u8 0) := (blk_cell BK101.out 2).trans rfl; have hcz16_3 : w15.cell? ⟨gb101, 3, none⟩ = some (.int .u8 0) := (blk_cell BK101.out 3).trans rfl; have hcz16_4 : w15.cell? ⟨gb101, 4, none⟩ = some (.int .u8 0) := (blk_cell BK101.out 4).trans rfl; have hcz16_5 : w15.cell? ⟨gb101, 5, none⟩ = some (.int .u8 0) := (blk_cell BK101.out 5).trans rfl; have hfz16_0 := blk_frozen BK101.out 0; have hfz16_1 := blk_frozen BK101.out 1; have hfz16_2 := blk_frozen BK101.out 2; have hfz16_3 := blk_frozen BK101.out 3; have hfz16_4 := blk_frozen BK101.out 4; have hfz16_5 := blk_frozen BK101.out 5))
      refine bodyPost_ret (results_cell_row rfl _ _ gb101 38 #[.bool false, .int .u8 46, .int .u8 47, .int .u8 94, .int .u8 0, .int .u8 0] (0, 0) _ rfl (kp (p6_5 (kp (p6_4 (kp (p6_3 (kp (p6_2 (kp (p6_1 (kp (p6_0 (kp BK101.out))))))))))))) Tryd.underlying38 rfl (by kernel_rfl)) rfl ?_
      exact ⟨by first | rfl | (simp [errW_none, errW_some] <;> rfl) | (simp [*, errW_none, errW_some] <;> rfl), bl HB.out⟩
     ·rw [if_neg c14] at H
      have c14b0 : (a0 == 5) = false := beq_eq_false_iff_ne.mpr c14
      have c14b1 : (a0 != 5) = true := bne_iff_ne.mpr c14
      simp only [Option.some.injEq, Prod.mk.injEq] at H
      obtain ⟨rfl, rfl, rfl, rfl, rfl, rfl⟩ := H
      go_enter Tryd.func17, Tryd.ntmps17
      go_wp2_with (first | ((with_reducible refine gate_dst (N := 2) rfl ?_); refine box_event ?hg (N := 2) ?hd (cs := #[.bool false, .int .u8 0, .int .u8 0, .int .u8 0, .int .u8 0, .int .u8 0]) (t := 38) ?hr ?_; (case hd => rfl); (case hg => rfl); (case hr => first | (go_simp; done) | (go_simp; rfl)); intro gb101 hg w17 hbox hb; have n0_ := sb HB hb; have n1_ := Aside0.mk (hbox); have n2_ := Aside0.mk ((by rw [hg]; exact (below_size (bl HB.out)) : w.heap.size ≤ gb101)); have n3_ := Aside0.mk ((by rw [hg]; exact (below_size (bl HB.out)) : w.heap.size ≤ gb101)); clear HB; have HB := n0_; have BK101 := n1_; have GW101 := n2_; have GE101 := n3_; clear n0_ n1_ n2_ n3_; clear hb hbox hg; have hcz18_0 : w17.cell? ⟨gb101, 0, none⟩ = some (.bool false) := (blk_cell BK101.out 0).trans rfl; have hcz18_1 : w17.cell? ⟨gb101, 1, none⟩ = some (.int .u8 0) := (blk_cell BK101.out 1).trans rfl; have hcz18_2 : w17.cell? ⟨gb101, 2, none⟩ = some (.int .u8 0) := (blk_cell BK101.out 2).trans rfl; have hcz18_3 : w17.cell? ⟨gb101, 3, none⟩ = some (.int .u8 0) := (blk_cell BK101.out 3).trans rfl; have hcz18_4 : w17.cell? ⟨gb101, 4, none⟩ = some (.int .u8 0) := (blk_cell BK101.out 4).trans rfl; have hcz18_5 : w17.cell? ⟨gb101, 5, none⟩ = some (.int .u8 0) := (blk_cell BK101.out 5).trans rfl; have hfz18_0 := blk_frozen BK101.out 0; have hfz18_1 := blk_frozen BK101.out 1; have hfz18_2 := blk_frozen BK101.out 2; have hfz18_3 := blk_frozen BK101.out 3; have hfz18_4 := blk_frozen BK101.out 4; have hfz18_5 := blk_frozen BK101.out 5))
      refine bodyPost_ret (results_cell_row rfl _ _ gb101 38 #[.bool false, .int .u8 0, .int .u8 0, .int .u8 0, .int .u8 0, .int .u8 0] (0, 0) _ rfl (kp (p6_5 (kp (p6_4 (kp (p6_3 (kp (p6_2 (kp (p6_1 (kp (p6_0 (kp BK101.out))))))))))))) Tryd.underlying38 rfl (by kernel_rfl)) rfl ?_
      exact ⟨by first | rfl | (simp [errW_none, errW_some] <;> rfl) | (simp [*, errW_none, errW_some] <;> rfl), bl HB.out⟩

/-! ### drachmref07_Kind: function 38 -/
mutual
def drachmref07_Kind.j0 : Nat → Int → Bool → Bool → Int → Int → Int → Int → Int → Option (Int)
 | 0, _, _, _, _, _, _, _, _ => none
 | k + 1, x1, x14, x109000, x109001, x109002, x109003, x109004, x109005 => if x14 = true then (some 0) else (if x1 ≥ 97 then (if x1 ≤ 122 then (drachmref07_Kind.j1 k x1 true x109000 x109001 x109002 x109003 x109004 x109005) else (if x1 ≥ 65 then (if x1 ≤ 90 then (drachmref07_Kind.j1 k x1 true x109000 x109001 x109002 x109003 x109004 x109005) else (if x1 = 37 then (drachmref07_Kind.j1 k x1 true x109000 x109001 x109002 x109003 x109004 x109005) else (if x1 = 39 then (drachmref07_Kind.j1 k x1 true x109000 x109001 x109002 x109003 x109004 x109005) else (if x1 = 95 then (drachmref07_Kind.j1 k x1 true x109000 x109001 x109002 x109003 x109004 x109005) else (if x1 = 91 then (drachmref07_Kind.j1 k x1 true x109000 x109001 x109002 x109003 x109004 x109005) else (drachmref07_Kind.j1 k x1 (x1 == 93) x109000 x109001 x109002 x109003 x109004 x109005)))))) else (if x1 = 37 then (drachmref07_Kind.j1 k x1 true x109000 x109001 x109002 x109003 x109004 x109005) else (if x1 = 39 then (drachmref07_Kind.j1 k x1 true x109000 x109001 x109002 x109003 x109004 x109005) else (if x1 = 95 then (drachmref07_Kind.j1 k x1 true x109000 x109001 x109002 x109003 x109004 x109005) else (if x1 = 91 then (drachmref07_Kind.j1 k x1 true x109000 x109001 x109002 x109003 x109004 x109005) else (drachmref07_Kind.j1 k x1 (x1 == 93) x109000 x109001 x109002 x109003 x109004 x109005))))))) else (if x1 ≥ 65 then (if x1 ≤ 90 then (drachmref07_Kind.j1 k x1 true x109000 x109001 x109002 x109003 x109004 x109005) else (if x1 = 37 then (drachmref07_Kind.j1 k x1 true x109000 x109001 x109002 x109003 x109004 x109005) else (if x1 = 39 then (drachmref07_Kind.j1 k x1 true x109000 x109001 x109002 x109003 x109004 x109005) else (if x1 = 95 then (drachmref07_Kind.j1 k x1 true x109000 x109001 x109002 x109003 x109004 x109005) else (if x1 = 91 then (drachmref07_Kind.j1 k x1 true x109000 x109001 x109002 x109003 x109004 x109005) else (drachmref07_Kind.j1 k x1 (x1 == 93) x109000 x109001 x109002 x109003 x109004 x109005)))))) else (if x1 = 37 then (drachmref07_Kind.j1 k x1 true x109000 x109001 x109002 x109003 x109004 x109005) else (if x1 = 39 then (drachmref07_Kind.j1 k x1 true x109000 x109001 x109002 x109003 x109004 x109005) else (if x1 = 95 then (drachmref07_Kind.j1 k x1 true x109000 x109001 x109002 x109003 x109004 x109005) else (if x1 = 91 then (drachmref07_Kind.j1 k x1 true x109000 x109001 x109002 x109003 x109004 x109005) else (drachmref07_Kind.j1 k x1 (x1 == 93) x109000 x109001 x109002 x109003 x109004 x109005)))))))
def drachmref07_Kind.j1 : Nat → Int → Bool → Bool → Int → Int → Int → Int → Int → Option (Int)
 | 0, _, _, _, _, _, _, _, _ => none
 | k + 1, x1, x48, x109000, x109001, x109002, x109003, x109004, x109005 => if x48 = true then (some 1) else (if x1 ≥ 48 then (drachmref07_Kind.j2 k x1 (decide (x1 ≤ 57)) x109000 x109001 x109002 x109003 x109004 x109005) else (drachmref07_Kind.j2 k x1 false x109000 x109001 x109002 x109003 x109004 x109005))
def drachmref07_Kind.j2 : Nat → Int → Bool → Bool → Int → Int → Int → Int → Int → Option (Int)
 | 0, _, _, _, _, _, _, _, _ => none
 | k + 1, x1, x54, x109000, x109001, x109002, x109003, x109004, x109005 => if x54 = true then (some 2) else (if x1 = 43 then (drachmref07_Kind.j3 k x1 (x1 == 43) x109000 x109001 x109002 x109003 x109004 x109005) else (drachmref07_Kind.j3 k x1 (x1 == 45) x109000 x109001 x109002 x109003 x109004 x109005))
def drachmref07_Kind.j3 : Nat → Int → Bool → Bool → Int → Int → Int → Int → Int → Option (Int)
 | 0, _, _, _, _, _, _, _, _ => none
 | k + 1, x55, x56, x109000, x109001, x109002, x109003, x109004, x109005 => if x56 = true then (some 3) else (if x55 = 40 then (some 7) else (if x55 = 41 then (some 8) else (if x55 = x109001 then (some 4) else (if x55 = x109002 then (some 5) else (if x55 = x109003 then (some 6) else (if x55 = x109004 then (some 9) else (if x55 = x109005 then (some 10) else (some 0))))))))
end
def drachmref07_Kind.f (k : Nat) (a0 : Int) (a1 : Int) : Option (Int) := (drachmref07_Of.f a0).bind fun bt102 => (if bt102.2.1 = 0 then (drachmref07_Kind.j0 k a1 true bt102.1 bt102.2.1 bt102.2.2.1 bt102.2.2.2.1 bt102.2.2.2.2.1 bt102.2.2.2.2.2) else (drachmref07_Kind.j0 k a1 (a1 == 0) bt102.1 bt102.2.1 bt102.2.2.1 bt102.2.2.2.1 bt102.2.2.2.2.1 bt102.2.2.2.2.2))
theorem drachmref07_Kind.mono_l : ∀ k, (∀ y0 y1 y2 y3 y4 y5 y6 y7, LeO (drachmref07_Kind.j0 k y0 y1 y2 y3 y4 y5 y6 y7) (drachmref07_Kind.j0 (k + 1) y0 y1 y2 y3 y4 y5 y6 y7)) ∧ (∀ y0 y1 y2 y3 y4 y5 y6 y7, LeO (drachmref07_Kind.j1 k y0 y1 y2 y3 y4 y5 y6 y7) (drachmref07_Kind.j1 (k + 1) y0 y1 y2 y3 y4 y5 y6 y7)) ∧ (∀ y0 y1 y2 y3 y4 y5 y6 y7, LeO (drachmref07_Kind.j2 k y0 y1 y2 y3 y4 y5 y6 y7) (drachmref07_Kind.j2 (k + 1) y0 y1 y2 y3 y4 y5 y6 y7)) ∧ (∀ y0 y1 y2 y3 y4 y5 y6 y7, LeO (drachmref07_Kind.j3 k y0 y1 y2 y3 y4 y5 y6 y7) (drachmref07_Kind.j3 (k + 1) y0 y1 y2 y3 y4 y5 y6 y7))
 | 0 => ⟨fun _ _ _ _ _ _ _ _ r h => by simp [drachmref07_Kind.j0] at h, fun _ _ _ _ _ _ _ _ r h => by simp [drachmref07_Kind.j1] at h, fun _ _ _ _ _ _ _ _ r h => by simp [drachmref07_Kind.j2] at h, fun _ _ _ _ _ _ _ _ r h => by simp [drachmref07_Kind.j3] at h⟩
 | k + 1 => by
  obtain ⟨ih0, ih1, ih2, ih3⟩ := drachmref07_Kind.mono_l k
  refine ⟨?_, ?_, ?_, ?_⟩
  ·intro y0 y1 y2 y3 y4 y5 y6 y7
   unfold drachmref07_Kind.j0
   repeat' first
   | (with_reducible exact ih0 _ _ _ _ _ _ _ _)
   | (with_reducible exact ih1 _ _ _ _ _ _ _ _)
   | (with_reducible exact ih2 _ _ _ _ _ _ _ _)
   | (with_reducible exact ih3 _ _ _ _ _ _ _ _)
   | (with_reducible exact LeO.refl _)
   | (with_reducible exact LeO.none _)
   | (with_reducible refine LeO.ite ?_ ?_)
   | (with_reducible refine LeO.bind ?_ (fun _ => ?_))
   | exact ih0 _ _ _ _ _ _ _ _
   | exact ih1 _ _ _ _ _ _ _ _
   | exact ih2 _ _ _ _ _ _ _ _
   | exact ih3 _ _ _ _ _ _ _ _
   | exact LeO.none _
   | refine LeO.ite ?_ ?_
   | refine LeO.bind ?_ (fun _ => ?_)
  ·intro y0 y1 y2 y3 y4 y5 y6 y7
   unfold drachmref07_Kind.j1
   repeat' first
   | (with_reducible exact ih0 _ _ _ _ _ _ _ _)
   | (with_reducible exact ih1 _ _ _ _ _ _ _ _)
   | (with_reducible exact ih2 _ _ _ _ _ _ _ _)
   | (with_reducible exact ih3 _ _ _ _ _ _ _ _)
   | (with_reducible exact LeO.refl _)
   | (with_reducible exact LeO.none _)
   | (with_reducible refine LeO.ite ?_ ?_)
   | (with_reducible refine LeO.bind ?_ (fun _ => ?_))
   | exact ih0 _ _ _ _ _ _ _ _
   | exact ih1 _ _ _ _ _ _ _ _
   | exact ih2 _ _ _ _ _ _ _ _
   | exact ih3 _ _ _ _ _ _ _ _
   | exact LeO.none _
   | refine LeO.ite ?_ ?_
   | refine LeO.bind ?_ (fun _ => ?_)
  ·intro y0 y1 y2 y3 y4 y5 y6 y7
   unfold drachmref07_Kind.j2
   repeat' first
   | (with_reducible exact ih0 _ _ _ _ _ _ _ _)
   | (with_reducible exact ih1 _ _ _ _ _ _ _ _)
   | (with_reducible exact ih2 _ _ _ _ _ _ _ _)
   | (with_reducible exact ih3 _ _ _ _ _ _ _ _)
   | (with_reducible exact LeO.refl _)
   | (with_reducible exact LeO.none _)
   | (with_reducible refine LeO.ite ?_ ?_)
   | (with_reducible refine LeO.bind ?_ (fun _ => ?_))
   | exact ih0 _ _ _ _ _ _ _ _
   | exact ih1 _ _ _ _ _ _ _ _
   | exact ih2 _ _ _ _ _ _ _ _
   | exact ih3 _ _ _ _ _ _ _ _
   | exact LeO.none _
   | refine LeO.ite ?_ ?_
   | refine LeO.bind ?_ (fun _ => ?_)
  ·intro y0 y1 y2 y3 y4 y5 y6 y7
   unfold drachmref07_Kind.j3
   repeat' first
   | (with_reducible exact ih0 _ _ _ _ _ _ _ _)
   | (with_reducible exact ih1 _ _ _ _ _ _ _ _)
   | (with_reducible exact ih2 _ _ _ _ _ _ _ _)
   | (with_reducible exact ih3 _ _ _ _ _ _ _ _)
   | (with_reducible exact LeO.refl _)
   | (with_reducible exact LeO.none _)
   | (with_reducible refine LeO.ite ?_ ?_)
   | (with_reducible refine LeO.bind ?_ (fun _ => ?_))
   | exact ih0 _ _ _ _ _ _ _ _
   | exact ih1 _ _ _ _ _ _ _ _
   | exact ih2 _ _ _ _ _ _ _ _
   | exact ih3 _ _ _ _ _ _ _ _
   | exact LeO.none _
   | refine LeO.ite ?_ ?_
   | refine LeO.bind ?_ (fun _ => ?_)
theorem drachmref07_Kind.mono : ∀ a0 a1 k, LeO (drachmref07_Kind.f k a0 a1) (drachmref07_Kind.f (k + 1) a0 a1) := by
 intro a0 a1 k
 obtain ⟨ih0, ih1, ih2, ih3⟩ := drachmref07_Kind.mono_l k
 unfold drachmref07_Kind.f
 repeat' first
   | (with_reducible exact ih0 _ _ _ _ _ _ _ _)
   | (with_reducible exact ih1 _ _ _ _ _ _ _ _)
   | (with_reducible exact ih2 _ _ _ _ _ _ _ _)
   | (with_reducible exact ih3 _ _ _ _ _ _ _ _)
   | (with_reducible exact LeO.refl _)
   | (with_reducible exact LeO.none _)
   | (with_reducible refine LeO.ite ?_ ?_)
   | (with_reducible refine LeO.bind ?_ (fun _ => ?_))
   | exact ih0 _ _ _ _ _ _ _ _
   | exact ih1 _ _ _ _ _ _ _ _
   | exact ih2 _ _ _ _ _ _ _ _
   | exact ih3 _ _ _ _ _ _ _ _
   | exact LeO.none _
   | refine LeO.ite ?_ ?_
   | refine LeO.bind ?_ (fun _ => ?_)
set_option maxHeartbeats 8000000 in
set_option maxRecDepth 100000 in
theorem drachmref07_Kind.calls (k : Nat) (a0 : Int) (a1 : Int) (r : Int) (w : World) (h : drachmref07_Kind.f k a0 a1 = some r) :
  Calls Tryd.prog 38 #[.int .i64 a0, .int .u8 a1] w fun e w' => e = .returned (.int .i64 r) ∧ Below w.heap.size w w' := by
 have hu38 := Tryd.underlying38
 have HB := Aside0.mk (Below.refl w.heap.size w)
 have H : ((drachmref07_Of.f a0).bind fun bt102 => (if bt102.2.1 = 0 then (drachmref07_Kind.j0 k a1 true bt102.1 bt102.2.1 bt102.2.2.1 bt102.2.2.2.1 bt102.2.2.2.2.1 bt102.2.2.2.2.2) else (drachmref07_Kind.j0 k a1 (a1 == 0) bt102.1 bt102.2.1 bt102.2.2.1 bt102.2.2.2.1 bt102.2.2.2.2.1 bt102.2.2.2.2.2))) = some r := h
 clear h
 replace H := Option.bind_eq_some_iff.mp H
 obtain ⟨⟨t102, t103, t104, t105, t106, t107⟩, A30, H⟩ := H
 replace H : (if t103 = 0 then (drachmref07_Kind.j0 k a1 true t102 t103 t104 t105 t106 t107) else (drachmref07_Kind.j0 k a1 (a1 == 0) t102 t103 t104 t105 t106 t107)) = some r := H
 have A3 := Aside0.mk A30
 clear A30
 have HC4 := Aside0.mk H
 clear H
 go_enter Tryd.func38, Tryd.ntmps38
 go_upto_region 2 with (first | (go_at_call 17; (with_reducible refine (drachmref07_Of.calls a0 t102 t103 t104 t105 t106 t107 _ A3.out).mono ?_); rintro e w5 ⟨rfl, hb⟩; replace HB := sb HB hb; (try clear hb); (try clear hb2); (try clear hk); (try clear hi)) | ((with_reducible refine gate_dst (N := 5) rfl ?_); refine box_event ?hg (N := 5) ?hd (cs := #[.bool false, .int .u8 0, .int .u8 0, .int .u8 0, .int .u8 0, .int .u8 0]) (t := 38) ?hr ?_; (case hd => rfl); (case hg => rfl); (case hr => first | (go_simp; done) | (go_simp; rfl)); intro gb108 hg w6 hbox hb; have n0_ := sb HB hb; have n1_ := Aside0.mk (hbox); have n2_ := Aside0.mk ((by rw [hg]; exact (below_size (bl HB.out)) : w.heap.size ≤ gb108)); have n3_ := Aside0.mk ((by rw [hg]; exact (below_size (bl HB.out)) : w.heap.size ≤ gb108)); clear HB; have HB := n0_; have BK108 := n1_; have GW108 := n2_; have GE108 := n3_; clear n0_ n1_ n2_ n3_; clear hb hbox hg; have hcz7_0 : w6.cell? ⟨gb108, 0, none⟩ = some (.bool false) := (blk_cell BK108.out 0).trans rfl; have hcz7_1 : w6.cell? ⟨gb108, 1, none⟩ = some (.int .u8 0) := (blk_cell BK108.out 1).trans rfl; have hcz7_2 : w6.cell? ⟨gb108, 2, none⟩ = some (.int .u8 0) := (blk_cell BK108.out 2).trans rfl; have hcz7_3 : w6.cell? ⟨gb108, 3, none⟩ = some (.int .u8 0) := (blk_cell BK108.out 3).trans rfl; have hcz7_4 : w6.cell? ⟨gb108, 4, none⟩ = some (.int .u8 0) := (blk_cell BK108.out 4).trans rfl; have hcz7_5 : w6.cell? ⟨gb108, 5, none⟩ = some (.int .u8 0) := (blk_cell BK108.out 5).trans rfl; have hfz7_0 := blk_frozen BK108.out 0; have hfz7_1 := blk_frozen BK108.out 1; have hfz7_2 := blk_frozen BK108.out 2; have hfz7_3 := blk_frozen BK108.out 3; have hfz7_4 := blk_frozen BK108.out 4; have hfz7_5 := blk_frozen BK108.out 5))
 (try simp only [Act.put, List.setIfInBounds_toArray, List.set_cons_zero, List.set_cons_succ])
 go_cut [14] (fun v14 wc => ∃ (kq : Nat) (x14_3 : Bool), v14 = .bool x14_3 ∧ Aside0 (drachmref07_Kind.j0 kq a1 x14_3 t102 t103 t104 t105 t106 t107 = some r) ∧ Aside0 (kq ≤ k) ∧ Aside0 (wc.heap[gb108]? = some (.cells #[.bool t102, .int .u8 t103, .int .u8 t104, .int .u8 t105, .int .u8 t106, .int .u8 t107] 38 (0, 0))) ∧ Aside0 (Below w.heap.size w wc))
 case first =>
  have H := HC4.out
  clear HC4
  by_cases c8 : t103 = 0
  ·rw [if_pos c8] at H
   have c8b0 : (t103 == 0) = true := beq_iff_eq.mpr c8
   have c8b1 : (t103 != 0) = false := bne_eq_false_iff_eq.mpr c8
   clear c8
   (first | rw [c8b0] | (simp only [i64_w, i32_w]; rw [c8b0]) | skip)
   have H' := Aside0.mk H
   clear H
   have hcz9_0 : w6.cell? ⟨gb108, 0, none⟩ = some (.bool false) := (blk_cell BK108.out 0).trans rfl
   have hcz9_1 : w6.cell? ⟨gb108, 1, none⟩ = some (.int .u8 0) := (blk_cell BK108.out 1).trans rfl
   have hcz9_2 : w6.cell? ⟨gb108, 2, none⟩ = some (.int .u8 0) := (blk_cell BK108.out 2).trans rfl
   have hcz9_3 : w6.cell? ⟨gb108, 3, none⟩ = some (.int .u8 0) := (blk_cell BK108.out 3).trans rfl
   have hcz9_4 : w6.cell? ⟨gb108, 4, none⟩ = some (.int .u8 0) := (blk_cell BK108.out 4).trans rfl
   have hcz9_5 : w6.cell? ⟨gb108, 5, none⟩ = some (.int .u8 0) := (blk_cell BK108.out 5).trans rfl
   have hfz9_0 := blk_frozen BK108.out 0
   have hfz9_1 := blk_frozen BK108.out 1
   have hfz9_2 := blk_frozen BK108.out 2
   have hfz9_3 := blk_frozen BK108.out 3
   have hfz9_4 := blk_frozen BK108.out 4
   have hfz9_5 := blk_frozen BK108.out 5
   go_wp2
   go_meet
   case rel => exact ⟨_, (true), (by first | rfl | (simp; done) | (simp [*]; done)), H', ⟨by first | omega | exact Nat.le_refl _⟩, ⟨kp (p6_5 (kp (p6_4 (kp (p6_3 (kp (p6_2 (kp (p6_1 (kp (p6_0 (kp BK108.out))))))))))))⟩, ⟨bl HB.out⟩⟩
  ·rw [if_neg c8] at H
   have c8b0 : (t103 == 0) = false := beq_eq_false_iff_ne.mpr c8
   have c8b1 : (t103 != 0) = true := bne_iff_ne.mpr c8
   (first | rw [c8b0] | (simp only [i64_w, i32_w]; rw [c8b0]) | skip)
   have H' := Aside0.mk H
   clear H
   have hcz10_0 : w6.cell? ⟨gb108, 0, none⟩ = some (.bool false) := (blk_cell BK108.out 0).trans rfl
   have hcz10_1 : w6.cell? ⟨gb108, 1, none⟩ = some (.int .u8 0) := (blk_cell BK108.out 1).trans rfl
   have hcz10_2 : w6.cell? ⟨gb108, 2, none⟩ = some (.int .u8 0) := (blk_cell BK108.out 2).trans rfl
   have hcz10_3 : w6.cell? ⟨gb108, 3, none⟩ = some (.int .u8 0) := (blk_cell BK108.out 3).trans rfl
   have hcz10_4 : w6.cell? ⟨gb108, 4, none⟩ = some (.int .u8 0) := (blk_cell BK108.out 4).trans rfl
   have hcz10_5 : w6.cell? ⟨gb108, 5, none⟩ = some (.int .u8 0) := (blk_cell BK108.out 5).trans rfl
   have hfz10_0 := blk_frozen BK108.out 0
   have hfz10_1 := blk_frozen BK108.out 1
   have hfz10_2 := blk_frozen BK108.out 2
   have hfz10_3 := blk_frozen BK108.out 3
   have hfz10_4 := blk_frozen BK108.out 4
   have hfz10_5 := blk_frozen BK108.out 5
   go_wp2
   go_meet
   case rel => exact ⟨_, ((a1 == 0)), (by first | rfl | (simp; done) | (simp [*]; done)), H', ⟨by first | omega | exact Nat.le_refl _⟩, ⟨kp (p6_5 (kp (p6_4 (kp (p6_3 (kp (p6_2 (kp (p6_1 (kp (p6_0 (kp BK108.out))))))))))))⟩, ⟨bl HB.out⟩⟩
 case rest =>
  clear HC4
  try clear c1
  try clear p2
  try clear c3
  try clear c8
  try clear c8b0
  try clear c8b1
  try clear hcz10_0 hcz10_1 hcz10_2 hcz10_3 hcz10_4 hcz10_5
  try clear hcz7_0 hcz7_1 hcz7_2 hcz7_3 hcz7_4 hcz7_5
  try clear hcz9_0 hcz9_1 hcz9_2 hcz9_3 hcz9_4 hcz9_5
  try clear hfz10_0 hfz10_1 hfz10_2 hfz10_3 hfz10_4 hfz10_5
  try clear hfz7_0 hfz7_1 hfz7_2 hfz7_3 hfz7_4 hfz7_5
  try clear hfz9_0 hfz9_1 hfz9_2 hfz9_3 hfz9_4 hfz9_5
  obtain ⟨kq, x14_3, rfl, HA, HJ3, BK108, HB⟩ := hcut
  cases kq with
  | zero => exact absurd HA.out (by simp [drachmref07_Kind.j0])
  | succ kj3 =>
   have H := HA.out
   clear HA
   simp only [drachmref07_Kind.j0] at H
   by_cases c11 : x14_3 = true
   ·subst c11
    have H1 : (some 0) = some r := by rw [if_pos rfl] at H; exact H
    clear H
    have H := H1
    clear H1
    obtain rfl := Option.some.inj H
    go_wp2
    go_ret
    exact ⟨by first | rfl | (simp [errW_none, errW_some] <;> rfl) | (simp [*, errW_none, errW_some] <;> rfl), bl HB.out⟩
   ·replace c11 := Bool.eq_false_iff.mpr c11
    subst c11
    have H1 : (if a1 ≥ 97 then (if a1 ≤ 122 then (drachmref07_Kind.j1 kj3 a1 true t102 t103 t104 t105 t106 t107) else (if a1 ≥ 65 then (if a1 ≤ 90 then (drachmref07_Kind.j1 kj3 a1 true t102 t103 t104 t105 t106 t107) else (if a1 = 37 then (drachmref07_Kind.j1 kj3 a1 true t102 t103 t104 t105 t106 t107) else (if a1 = 39 then (drachmref07_Kind.j1 kj3 a1 true t102 t103 t104 t105 t106 t107) else (if a1 = 95 then (drachmref07_Kind.j1 kj3 a1 true t102 t103 t104 t105 t106 t107) else (if a1 = 91 then (drachmref07_Kind.j1 kj3 a1 true t102 t103 t104 t105 t106 t107) else (drachmref07_Kind.j1 kj3 a1 (a1 == 93) t102 t103 t104 t105 t106 t107)))))) else (if a1 = 37 then (drachmref07_Kind.j1 kj3 a1 true t102 t103 t104 t105 t106 t107) else (if a1 = 39 then (drachmref07_Kind.j1 kj3 a1 true t102 t103 t104 t105 t106 t107) else (if a1 = 95 then (drachmref07_Kind.j1 kj3 a1 true t102 t103 t104 t105 t106 t107) else (if a1 = 91 then (drachmref07_Kind.j1 kj3 a1 true t102 t103 t104 t105 t106 t107) else (drachmref07_Kind.j1 kj3 a1 (a1 == 93) t102 t103 t104 t105 t106 t107))))))) else (if a1 ≥ 65 then (if a1 ≤ 90 then (drachmref07_Kind.j1 kj3 a1 true t102 t103 t104 t105 t106 t107) else (if a1 = 37 then (drachmref07_Kind.j1 kj3 a1 true t102 t103 t104 t105 t106 t107) else (if a1 = 39 then (drachmref07_Kind.j1 kj3 a1 true t102 t103 t104 t105 t106 t107) else (if a1 = 95 then (drachmref07_Kind.j1 kj3 a1 true t102 t103 t104 t105 t106 t107) else (if a1 = 91 then (drachmref07_Kind.j1 kj3 a1 true t102 t103 t104 t105 t106 t107) else (drachmref07_Kind.j1 kj3 a1 (a1 == 93) t102 t103 t104 t105 t106 t107)))))) else (if a1 = 37 then (drachmref07_Kind.j1 kj3 a1 true t102 t103 t104 t105 t106 t107) else (if a1 = 39 then (drachmref07_Kind.j1 kj3 a1 true t102 t103 t104 t105 t106 t107) else (if a1 = 95 then (drachmref07_Kind.j1 kj3 a1 true t102 t103 t104 t105 t106 t107) else (if a1 = 91 then (drachmref07_Kind.j1 kj3 a1 true t102 t103 t104 t105 t106 t107) else (drachmref07_Kind.j1 kj3 a1 (a1 == 93) t102 t103 t104 t105 t106 t107))))))) = some r := by rw [if_neg (show ¬ (false = true) by decide)] at H; exact H
    clear H
    have H := H1
    clear H1
    have HC12 := Aside0.mk H
    clear H
    go_upto_region 4 with (fail)
    go_cut [48] (fun v48 wc => ∃ (kq : Nat) (x48_11 : Bool), v48 = .bool x48_11 ∧ Aside0 (drachmref07_Kind.j1 kq a1 x48_11 t102 t103 t104 t105 t106 t107 = some r) ∧ Aside0 (kq ≤ kj3) ∧ Aside0 (wc.heap[gb108]? = some (.cells #[.bool t102, .int .u8 t103, .int .u8 t104, .int .u8 t105, .int .u8 t106, .int .u8 t107] 38 (0, 0))) ∧ Aside0 (Below w.heap.size w wc))
    case first =>
     have H := HC12.out
     clear HC12
     by_cases c13 : a1 ≥ 97
     ·rw [if_pos c13] at H
      have c13b0 : decide (97 ≤ a1) = true := decide_eq_true c13
      clear c13
      (first | rw [c13b0] | (simp only [i64_w, i32_w]; rw [c13b0]) | skip)
      by_cases c14 : a1 ≤ 122
      ·rw [if_pos c14] at H
       have c14b0 : decide (a1 ≤ 122) = true := decide_eq_true c14
       clear c14
       have H' := Aside0.mk H
       clear H
       go_wp2
       go_meet
       case rel => exact ⟨_, (true), (by first | rfl | (simp; done) | (simp [*]; done)), H', ⟨by have := HJ3.out; first | omega | exact Nat.le_refl _⟩, ⟨kp BK108.out⟩, ⟨bl HB.out⟩⟩
      ·rw [if_neg c14] at H
       have c14b0 : decide (a1 ≤ 122) = false := decide_eq_false c14
       clear c14
       by_cases c15 : a1 ≥ 65
       ·rw [if_pos c15] at H
        have c15b0 : decide (65 ≤ a1) = true := decide_eq_true c15
        clear c15
        by_cases c16 : a1 ≤ 90
        ·rw [if_pos c16] at H
         have c16b0 : decide (a1 ≤ 90) = true := decide_eq_true c16
         clear c16
         have H' := Aside0.mk H
         clear H
         go_wp2
         go_meet
         case rel => exact ⟨_, (true), (by first | rfl | (simp; done) | (simp [*]; done)), H', ⟨by have := HJ3.out; first | omega | exact Nat.le_refl _⟩, ⟨kp BK108.out⟩, ⟨bl HB.out⟩⟩
        ·rw [if_neg c16] at H
         have c16b0 : decide (a1 ≤ 90) = false := decide_eq_false c16
         clear c16
         by_cases c17 : a1 = 37
         ·rw [if_pos c17] at H
          have c17b0 : (a1 == 37) = true := beq_iff_eq.mpr c17
          have c17b1 : (a1 != 37) = false := bne_eq_false_iff_eq.mpr c17
          clear c17
          have H' := Aside0.mk H
          clear H
          go_wp2
          go_meet
          case rel => exact ⟨_, (true), (by first | rfl | (simp; done) | (simp [*]; done)), H', ⟨by have := HJ3.out; first | omega | exact Nat.le_refl _⟩, ⟨kp BK108.out⟩, ⟨bl HB.out⟩⟩
         ·rw [if_neg c17] at H
          have c17b0 : (a1 == 37) = false := beq_eq_false_iff_ne.mpr c17
          have c17b1 : (a1 != 37) = true := bne_iff_ne.mpr c17
          by_cases c18 : a1 = 39
          ·rw [if_pos c18] at H
           have c18b0 : (a1 == 39) = true := beq_iff_eq.mpr c18
           have c18b1 : (a1 != 39) = false := bne_eq_false_iff_eq.mpr c18
           clear c18
           have H' := Aside0.mk H
           clear H
           go_wp2
           go_meet
           case rel => exact ⟨_, (true), (by first | rfl | (simp; done) | (simp [*]; done)), H', ⟨by have := HJ3.out; first | omega | exact Nat.le_refl _⟩, ⟨kp BK108.out⟩, ⟨bl HB.out⟩⟩
          ·rw [if_neg c18] at H
           have c18b0 : (a1 == 39) = false := beq_eq_false_iff_ne.mpr c18
           have c18b1 : (a1 != 39) = true := bne_iff_ne.mpr c18
           by_cases c19 : a1 = 95
           ·rw [if_pos c19] at H
            have c19b0 : (a1 == 95) = true := beq_iff_eq.mpr c19
            have c19b1 : (a1 != 95) = false := bne_eq_false_iff_eq.mpr c19
            clear c19
            have H' := Aside0.mk H
            clear H
            go_wp2
            go_meet
            case rel => exact ⟨_, (true), (by first | rfl | (simp; done) | (simp [*]; done)), H', ⟨by have := HJ3.out; first | omega | exact Nat.le_refl _⟩, ⟨kp BK108.out⟩, ⟨bl HB.out⟩⟩
           ·rw [if_neg c19] at H
            have c19b0 : (a1 == 95) = false := beq_eq_false_iff_ne.mpr c19
            have c19b1 : (a1 != 95) = true := bne_iff_ne.mpr c19
            by_cases c20 : a1 = 91
            ·rw [if_pos c20] at H
             have c20b0 : (a1 == 91) = true := beq_iff_eq.mpr c20
             have c20b1 : (a1 != 91) = false := bne_eq_false_iff_eq.mpr c20
             clear c20
             have H' := Aside0.mk H
             clear H
             go_wp2
             go_meet
             case rel => exact ⟨_, (true), (by first | rfl | (simp; done) | (simp [*]; done)), H', ⟨by have := HJ3.out; first | omega | exact Nat.le_refl _⟩, ⟨kp BK108.out⟩, ⟨bl HB.out⟩⟩
            ·rw [if_neg c20] at H
             have c20b0 : (a1 == 91) = false := beq_eq_false_iff_ne.mpr c20
             have c20b1 : (a1 != 91) = true := bne_iff_ne.mpr c20
             have H' := Aside0.mk H
             clear H
             go_wp2
             go_meet
             case rel => exact ⟨_, ((a1 == 93)), (by first | rfl | (simp; done) | (simp [*]; done)), H', ⟨by have := HJ3.out; first | omega | exact Nat.le_refl _⟩, ⟨kp BK108.out⟩, ⟨bl HB.out⟩⟩
       ·rw [if_neg c15] at H
        have c15b0 : decide (65 ≤ a1) = false := decide_eq_false c15
        clear c15
        by_cases c21 : a1 = 37
        ·rw [if_pos c21] at H
         have c21b0 : (a1 == 37) = true := beq_iff_eq.mpr c21
         have c21b1 : (a1 != 37) = false := bne_eq_false_iff_eq.mpr c21
         clear c21
         have H' := Aside0.mk H
         clear H
         go_wp2
         go_meet
         case rel => exact ⟨_, (true), (by first | rfl | (simp; done) | (simp [*]; done)), H', ⟨by have := HJ3.out; first | omega | exact Nat.le_refl _⟩, ⟨kp BK108.out⟩, ⟨bl HB.out⟩⟩
        ·rw [if_neg c21] at H
         have c21b0 : (a1 == 37) = false := beq_eq_false_iff_ne.mpr c21
         have c21b1 : (a1 != 37) = true := bne_iff_ne.mpr c21
         by_cases c22 : a1 = 39
         ·rw [if_pos c22] at H
          have c22b0 : (a1 == 39) = true := beq_iff_eq.mpr c22
          have c22b1 : (a1 != 39) = false := bne_eq_false_iff_eq.mpr c22
          clear c22
          have H' := Aside0.mk H
          clear H
          go_wp2
          go_meet
          case rel => exact ⟨_, (true), (by first | rfl | (simp; done) | (simp [*]; done)), H', ⟨by have := HJ3.out; first | omega | exact Nat.le_refl _⟩, ⟨kp BK108.out⟩, ⟨bl HB.out⟩⟩
         ·rw [if_neg c22] at H
          have c22b0 : (a1 == 39) = false := beq_eq_false_iff_ne.mpr c22
          have c22b1 : (a1 != 39) = true := bne_iff_ne.mpr c22
          by_cases c23 : a1 = 95
          ·rw [if_pos c23] at H
           have c23b0 : (a1 == 95) = true := beq_iff_eq.mpr c23
           have c23b1 : (a1 != 95) = false := bne_eq_false_iff_eq.mpr c23
           clear c23
           have H' := Aside0.mk H
           clear H
           go_wp2
           go_meet
           case rel => exact ⟨_, (true), (by first | rfl | (simp; done) | (simp [*]; done)), H', ⟨by have := HJ3.out; first | omega | exact Nat.le_refl _⟩, ⟨kp BK108.out⟩, ⟨bl HB.out⟩⟩
          ·rw [if_neg c23] at H
           have c23b0 : (a1 == 95) = false := beq_eq_false_iff_ne.mpr c23
           have c23b1 : (a1 != 95) = true := bne_iff_ne.mpr c23
           by_cases c24 : a1 = 91
           ·rw [if_pos c24] at H
            have c24b0 : (a1 == 91) = true := beq_iff_eq.mpr c24
            have c24b1 : (a1 != 91) = false := bne_eq_false_iff_eq.mpr c24
            clear c24
            have H' := Aside0.mk H
            clear H
            go_wp2
            go_meet
            case rel => exact ⟨_, (true), (by first | rfl | (simp; done) | (simp [*]; done)), H', ⟨by have := HJ3.out; first | omega | exact Nat.le_refl _⟩, ⟨kp BK108.out⟩, ⟨bl HB.out⟩⟩
           ·rw [if_neg c24] at H
            have c24b0 : (a1 == 91) = false := beq_eq_false_iff_ne.mpr c24
            have c24b1 : (a1 != 91) = true := bne_iff_ne.mpr c24
            have H' := Aside0.mk H
            clear H
            go_wp2
            go_meet
            case rel => exact ⟨_, ((a1 == 93)), (by first | rfl | (simp; done) | (simp [*]; done)), H', ⟨by have := HJ3.out; first | omega | exact Nat.le_refl _⟩, ⟨kp BK108.out⟩, ⟨bl HB.out⟩⟩
     ·rw [if_neg c13] at H
      have c13b0 : decide (97 ≤ a1) = false := decide_eq_false c13
      clear c13
      (first | rw [c13b0] | (simp only [i64_w, i32_w]; rw [c13b0]) | skip)
      by_cases c25 : a1 ≥ 65
      ·rw [if_pos c25] at H
       have c25b0 : decide (65 ≤ a1) = true := decide_eq_true c25
       clear c25
       by_cases c26 : a1 ≤ 90
       ·rw [if_pos c26] at H
        have c26b0 : decide (a1 ≤ 90) = true := decide_eq_true c26
        clear c26
        have H' := Aside0.mk H
        clear H
        go_wp2
        go_meet
        case rel => exact ⟨_, (true), (by first | rfl | (simp; done) | (simp [*]; done)), H', ⟨by have := HJ3.out; first | omega | exact Nat.le_refl _⟩, ⟨kp BK108.out⟩, ⟨bl HB.out⟩⟩
       ·rw [if_neg c26] at H
        have c26b0 : decide (a1 ≤ 90) = false := decide_eq_false c26
        clear c26
        by_cases c27 : a1 = 37
        ·rw [if_pos c27] at H
         have c27b0 : (a1 == 37) = true := beq_iff_eq.mpr c27
         have c27b1 : (a1 != 37) = false := bne_eq_false_iff_eq.mpr c27
         clear c27
         have H' := Aside0.mk H
         clear H
         go_wp2
         go_meet
         case rel => exact ⟨_, (true), (by first | rfl | (simp; done) | (simp [*]; done)), H', ⟨by have := HJ3.out; first | omega | exact Nat.le_refl _⟩, ⟨kp BK108.out⟩, ⟨bl HB.out⟩⟩
        ·rw [if_neg c27] at H
         have c27b0 : (a1 == 37) = false := beq_eq_false_iff_ne.mpr c27
         have c27b1 : (a1 != 37) = true := bne_iff_ne.mpr c27
         by_cases c28 : a1 = 39
         ·rw [if_pos c28] at H
          have c28b0 : (a1 == 39) = true := beq_iff_eq.mpr c28
          have c28b1 : (a1 != 39) = false := bne_eq_false_iff_eq.mpr c28
          clear c28
          have H' := Aside0.mk H
          clear H
          go_wp2
          go_meet
          case rel => exact ⟨_, (true), (by first | rfl | (simp; done) | (simp [*]; done)), H', ⟨by have := HJ3.out; first | omega | exact Nat.le_refl _⟩, ⟨kp BK108.out⟩, ⟨bl HB.out⟩⟩
         ·rw [if_neg c28] at H
          have c28b0 : (a1 == 39) = false := beq_eq_false_iff_ne.mpr c28
          have c28b1 : (a1 != 39) = true := bne_iff_ne.mpr c28
          by_cases c29 : a1 = 95
          ·rw [if_pos c29] at H
           have c29b0 : (a1 == 95) = true := beq_iff_eq.mpr c29
           have c29b1 : (a1 != 95) = false := bne_eq_false_iff_eq.mpr c29
           clear c29
           have H' := Aside0.mk H
           clear H
           go_wp2
           go_meet
           case rel => exact ⟨_, (true), (by first | rfl | (simp; done) | (simp [*]; done)), H', ⟨by have := HJ3.out; first | omega | exact Nat.le_refl _⟩, ⟨kp BK108.out⟩, ⟨bl HB.out⟩⟩
          ·rw [if_neg c29] at H
           have c29b0 : (a1 == 95) = false := beq_eq_false_iff_ne.mpr c29
           have c29b1 : (a1 != 95) = true := bne_iff_ne.mpr c29
           by_cases c30 : a1 = 91
           ·rw [if_pos c30] at H
            have c30b0 : (a1 == 91) = true := beq_iff_eq.mpr c30
            have c30b1 : (a1 != 91) = false := bne_eq_false_iff_eq.mpr c30
            clear c30
            have H' := Aside0.mk H
            clear H
            go_wp2
            go_meet
            case rel => exact ⟨_, (true), (by first | rfl | (simp; done) | (simp [*]; done)), H', ⟨by have := HJ3.out; first | omega | exact Nat.le_refl _⟩, ⟨kp BK108.out⟩, ⟨bl HB.out⟩⟩
           ·rw [if_neg c30] at H
            have c30b0 : (a1 == 91) = false := beq_eq_false_iff_ne.mpr c30
            have c30b1 : (a1 != 91) = true := bne_iff_ne.mpr c30
            have H' := Aside0.mk H
            clear H
            go_wp2
            go_meet
            case rel => exact ⟨_, ((a1 == 93)), (by first | rfl | (simp; done) | (simp [*]; done)), H', ⟨by have := HJ3.out; first | omega | exact Nat.le_refl _⟩, ⟨kp BK108.out⟩, ⟨bl HB.out⟩⟩
      ·rw [if_neg c25] at H
       have c25b0 : decide (65 ≤ a1) = false := decide_eq_false c25
       clear c25
       by_cases c31 : a1 = 37
       ·rw [if_pos c31] at H
        have c31b0 : (a1 == 37) = true := beq_iff_eq.mpr c31
        have c31b1 : (a1 != 37) = false := bne_eq_false_iff_eq.mpr c31
        clear c31
        have H' := Aside0.mk H
        clear H
        go_wp2
        go_meet
        case rel => exact ⟨_, (true), (by first | rfl | (simp; done) | (simp [*]; done)), H', ⟨by have := HJ3.out; first | omega | exact Nat.le_refl _⟩, ⟨kp BK108.out⟩, ⟨bl HB.out⟩⟩
       ·rw [if_neg c31] at H
        have c31b0 : (a1 == 37) = false := beq_eq_false_iff_ne.mpr c31
        have c31b1 : (a1 != 37) = true := bne_iff_ne.mpr c31
        by_cases c32 : a1 = 39
        ·rw [if_pos c32] at H
         have c32b0 : (a1 == 39) = true := beq_iff_eq.mpr c32
         have c32b1 : (a1 != 39) = false := bne_eq_false_iff_eq.mpr c32
         clear c32
         have H' := Aside0.mk H
         clear H
         go_wp2
         go_meet
         case rel => exact ⟨_, (true), (by first | rfl | (simp; done) | (simp [*]; done)), H', ⟨by have := HJ3.out; first | omega | exact Nat.le_refl _⟩, ⟨kp BK108.out⟩, ⟨bl HB.out⟩⟩
        ·rw [if_neg c32] at H
         have c32b0 : (a1 == 39) = false := beq_eq_false_iff_ne.mpr c32
         have c32b1 : (a1 != 39) = true := bne_iff_ne.mpr c32
         by_cases c33 : a1 = 95
         ·rw [if_pos c33] at H
          have c33b0 : (a1 == 95) = true := beq_iff_eq.mpr c33
          have c33b1 : (a1 != 95) = false := bne_eq_false_iff_eq.mpr c33
          clear c33
          have H' := Aside0.mk H
          clear H
          go_wp2
          go_meet
          case rel => exact ⟨_, (true), (by first | rfl | (simp; done) | (simp [*]; done)), H', ⟨by have := HJ3.out; first | omega | exact Nat.le_refl _⟩, ⟨kp BK108.out⟩, ⟨bl HB.out⟩⟩
         ·rw [if_neg c33] at H
          have c33b0 : (a1 == 95) = false := beq_eq_false_iff_ne.mpr c33
          have c33b1 : (a1 != 95) = true := bne_iff_ne.mpr c33
          by_cases c34 : a1 = 91
          ·rw [if_pos c34] at H
           have c34b0 : (a1 == 91) = true := beq_iff_eq.mpr c34
           have c34b1 : (a1 != 91) = false := bne_eq_false_iff_eq.mpr c34
           clear c34
           have H' := Aside0.mk H
           clear H
           go_wp2
           go_meet
           case rel => exact ⟨_, (true), (by first | rfl | (simp; done) | (simp [*]; done)), H', ⟨by have := HJ3.out; first | omega | exact Nat.le_refl _⟩, ⟨kp BK108.out⟩, ⟨bl HB.out⟩⟩
          ·rw [if_neg c34] at H
           have c34b0 : (a1 == 91) = false := beq_eq_false_iff_ne.mpr c34
           have c34b1 : (a1 != 91) = true := bne_iff_ne.mpr c34
           have H' := Aside0.mk H
           clear H
           go_wp2
           go_meet
           case rel => exact ⟨_, ((a1 == 93)), (by first | rfl | (simp; done) | (simp [*]; done)), H', ⟨by have := HJ3.out; first | omega | exact Nat.le_refl _⟩, ⟨kp BK108.out⟩, ⟨bl HB.out⟩⟩
    case rest =>
     clear HC12
     try clear c1
     try clear c2
     try clear p2
     try clear c3
     try clear c8
     try clear c8b0
     try clear c8b1
     try clear c11
     try clear c13
     try clear c13b0
     try clear c14
     try clear c14b0
     try clear c15
     try clear c15b0
     try clear c16
     try clear c16b0
     try clear c17
     try clear c17b0
     try clear c17b1
     try clear c18
     try clear c18b0
     try clear c18b1
     try clear c19
     try clear c19b0
     try clear c19b1
     try clear c20
     try clear c20b0
     try clear c20b1
     try clear c21
     try clear c21b0
     try clear c21b1
     try clear c22
     try clear c22b0
     try clear c22b1
     try clear c23
     try clear c23b0
     try clear c23b1
     try clear c24
     try clear c24b0
     try clear c24b1
     try clear c25
     try clear c25b0
     try clear c26
     try clear c26b0
     try clear c27
     try clear c27b0
     try clear c27b1
     try clear c28
     try clear c28b0
     try clear c28b1
     try clear c29
     try clear c29b0
     try clear c29b1
     try clear c30
     try clear c30b0
     try clear c30b1
     try clear c31
     try clear c31b0
     try clear c31b1
     try clear c32
     try clear c32b0
     try clear c32b1
     try clear c33
     try clear c33b0
     try clear c33b1
     try clear c34
     try clear c34b0
     try clear c34b1
     try clear hcz10_0 hcz10_1 hcz10_2 hcz10_3 hcz10_4 hcz10_5
     try clear hcz7_0 hcz7_1 hcz7_2 hcz7_3 hcz7_4 hcz7_5
     try clear hcz9_0 hcz9_1 hcz9_2 hcz9_3 hcz9_4 hcz9_5
     try clear hfz10_0 hfz10_1 hfz10_2 hfz10_3 hfz10_4 hfz10_5
     try clear hfz7_0 hfz7_1 hfz7_2 hfz7_3 hfz7_4 hfz7_5
     try clear hfz9_0 hfz9_1 hfz9_2 hfz9_3 hfz9_4 hfz9_5
     try clear p2
     obtain ⟨kq, x48_11, rfl, HA, HJ11, BK108, HB⟩ := hcut
     cases kq with
     | zero => exact absurd HA.out (by simp [drachmref07_Kind.j1])
     | succ kj11 =>
      have H := HA.out
      clear HA
      simp only [drachmref07_Kind.j1] at H
      by_cases c35 : x48_11 = true
      ·subst c35
       have H1 : (some 1) = some r := by rw [if_pos rfl] at H; exact H
       clear H
       have H := H1
       clear H1
       obtain rfl := Option.some.inj H
       go_wp2
       go_ret
       exact ⟨by first | rfl | (simp [errW_none, errW_some] <;> rfl) | (simp [*, errW_none, errW_some] <;> rfl), bl HB.out⟩
      ·replace c35 := Bool.eq_false_iff.mpr c35
       subst c35
       have H1 : (if a1 ≥ 48 then (drachmref07_Kind.j2 kj11 a1 (decide (a1 ≤ 57)) t102 t103 t104 t105 t106 t107) else (drachmref07_Kind.j2 kj11 a1 false t102 t103 t104 t105 t106 t107)) = some r := by rw [if_neg (show ¬ (false = true) by decide)] at H; exact H
       clear H
       have H := H1
       clear H1
       have HC36 := Aside0.mk H
       clear H
       go_upto_region 6 with (fail)
       go_cut [54] (fun v54 wc => ∃ (kq : Nat) (x54_35 : Bool), v54 = .bool x54_35 ∧ Aside0 (drachmref07_Kind.j2 kq a1 x54_35 t102 t103 t104 t105 t106 t107 = some r) ∧ Aside0 (kq ≤ kj11) ∧ Aside0 (wc.heap[gb108]? = some (.cells #[.bool t102, .int .u8 t103, .int .u8 t104, .int .u8 t105, .int .u8 t106, .int .u8 t107] 38 (0, 0))) ∧ Aside0 (Below w.heap.size w wc))
       case first =>
        have H := HC36.out
        clear HC36
        by_cases c37 : a1 ≥ 48
        ·rw [if_pos c37] at H
         have c37b0 : decide (48 ≤ a1) = true := decide_eq_true c37
         clear c37
         (first | rw [c37b0] | (simp only [i64_w, i32_w]; rw [c37b0]) | skip)
         have H' := Aside0.mk H
         clear H
         go_wp2
         go_meet
         case rel => exact ⟨_, (decide (a1 ≤ 57)), (by first | rfl | (simp; done) | (simp [*]; done)), H', ⟨by have := HJ3.out; have := HJ11.out; first | omega | exact Nat.le_refl _⟩, ⟨kp BK108.out⟩, ⟨bl HB.out⟩⟩
        ·rw [if_neg c37] at H
         have c37b0 : decide (48 ≤ a1) = false := decide_eq_false c37
         clear c37
         (first | rw [c37b0] | (simp only [i64_w, i32_w]; rw [c37b0]) | skip)
         have H' := Aside0.mk H
         clear H
         go_wp2
         go_meet
         case rel => exact ⟨_, (false), (by first | rfl | (simp; done) | (simp [*]; done)), H', ⟨by have := HJ3.out; have := HJ11.out; first | omega | exact Nat.le_refl _⟩, ⟨kp BK108.out⟩, ⟨bl HB.out⟩⟩
       case rest =>
        clear HC36
        try clear c1
        try clear c2
        try clear p2
        try clear c3
        try clear c8
        try clear c8b0
        try clear c8b1
        try clear c11
        try clear c13
        try clear c13b0
        try clear c14
        try clear c14b0
        try clear c15
        try clear c15b0
        try clear c16
        try clear c16b0
        try clear c17
        try clear c17b0
        try clear c17b1
        try clear c18
        try clear c18b0
        try clear c18b1
        try clear c19
        try clear c19b0
        try clear c19b1
        try clear c20
        try clear c20b0
        try clear c20b1
        try clear c21
        try clear c21b0
        try clear c21b1
        try clear c22
        try clear c22b0
        try clear c22b1
        try clear c23
        try clear c23b0
        try clear c23b1
        try clear c24
        try clear c24b0
        try clear c24b1
        try clear c25
        try clear c25b0
        try clear c26
        try clear c26b0
        try clear c27
        try clear c27b0
        try clear c27b1
        try clear c28
        try clear c28b0
        try clear c28b1
        try clear c29
        try clear c29b0
        try clear c29b1
        try clear c30
        try clear c30b0
        try clear c30b1
        try clear c31
        try clear c31b0
        try clear c31b1
        try clear c32
        try clear c32b0
        try clear c32b1
        try clear c33
        try clear c33b0
        try clear c33b1
        try clear c34
        try clear c34b0
        try clear c34b1
        try clear c35
        try clear c37
        try clear c37b0
        try clear hcz10_0 hcz10_1 hcz10_2 hcz10_3 hcz10_4 hcz10_5
        try clear hcz7_0 hcz7_1 hcz7_2 hcz7_3 hcz7_4 hcz7_5
        try clear hcz9_0 hcz9_1 hcz9_2 hcz9_3 hcz9_4 hcz9_5
        try clear hfz10_0 hfz10_1 hfz10_2 hfz10_3 hfz10_4 hfz10_5
        try clear hfz7_0 hfz7_1 hfz7_2 hfz7_3 hfz7_4 hfz7_5
        try clear hfz9_0 hfz9_1 hfz9_2 hfz9_3 hfz9_4 hfz9_5
        try clear p2
        obtain ⟨kq, x54_35, rfl, HA, HJ35, BK108, HB⟩ := hcut
        cases kq with
        | zero => exact absurd HA.out (by simp [drachmref07_Kind.j2])
        | succ kj35 =>
         have H := HA.out
         clear HA
         simp only [drachmref07_Kind.j2] at H
         by_cases c38 : x54_35 = true
         ·subst c38
          have H1 : (some 2) = some r := by rw [if_pos rfl] at H; exact H
          clear H
          have H := H1
          clear H1
          obtain rfl := Option.some.inj H
          go_wp2
          go_ret
          exact ⟨by first | rfl | (simp [errW_none, errW_some] <;> rfl) | (simp [*, errW_none, errW_some] <;> rfl), bl HB.out⟩
         ·replace c38 := Bool.eq_false_iff.mpr c38
          subst c38
          have H1 : (if a1 = 43 then (drachmref07_Kind.j3 kj35 a1 (a1 == 43) t102 t103 t104 t105 t106 t107) else (drachmref07_Kind.j3 kj35 a1 (a1 == 45) t102 t103 t104 t105 t106 t107)) = some r := by rw [if_neg (show ¬ (false = true) by decide)] at H; exact H
          clear H
          have H := H1
          clear H1
          have HC39 := Aside0.mk H
          clear H
          go_upto_if 56 with (fail)
          go_cut [56] (fun v56 wc => ∃ (kq : Nat) (x56_38 : Bool), v56 = .bool x56_38 ∧ Aside0 (drachmref07_Kind.j3 kq a1 x56_38 t102 t103 t104 t105 t106 t107 = some r) ∧ Aside0 (kq ≤ kj35) ∧ Aside0 (wc.heap[gb108]? = some (.cells #[.bool t102, .int .u8 t103, .int .u8 t104, .int .u8 t105, .int .u8 t106, .int .u8 t107] 38 (0, 0))) ∧ Aside0 (Below w.heap.size w wc))
          case first =>
           have H := HC39.out
           clear HC39
           by_cases c40 : a1 = 43
           ·rw [if_pos c40] at H
            have c40b0 : (a1 == 43) = true := beq_iff_eq.mpr c40
            have c40b1 : (a1 != 43) = false := bne_eq_false_iff_eq.mpr c40
            clear c40
            (first | rw [c40b0] | (simp only [i64_w, i32_w]; rw [c40b0]) | skip)
            have H' := Aside0.mk H
            clear H
            go_wp2
            go_meet
            case rel => exact ⟨_, ((a1 == 43)), (by first | rfl | (simp; done) | (simp [*]; done)), H', ⟨by have := HJ3.out; have := HJ11.out; have := HJ35.out; first | omega | exact Nat.le_refl _⟩, ⟨kp BK108.out⟩, ⟨bl HB.out⟩⟩
           ·rw [if_neg c40] at H
            have c40b0 : (a1 == 43) = false := beq_eq_false_iff_ne.mpr c40
            have c40b1 : (a1 != 43) = true := bne_iff_ne.mpr c40
            (first | rw [c40b0] | (simp only [i64_w, i32_w]; rw [c40b0]) | skip)
            have H' := Aside0.mk H
            clear H
            go_wp2
            go_meet
            case rel => exact ⟨_, ((a1 == 45)), (by first | rfl | (simp; done) | (simp [*]; done)), H', ⟨by have := HJ3.out; have := HJ11.out; have := HJ35.out; first | omega | exact Nat.le_refl _⟩, ⟨kp BK108.out⟩, ⟨bl HB.out⟩⟩
          case rest =>
           clear HC39
           try clear c1
           try clear c2
           try clear p2
           try clear c3
           try clear c4
           try clear c8
           try clear c8b0
           try clear c8b1
           try clear c11
           try clear c13
           try clear c13b0
           try clear c14
           try clear c14b0
           try clear c15
           try clear c15b0
           try clear c16
           try clear c16b0
           try clear c17
           try clear c17b0
           try clear c17b1
           try clear c18
           try clear c18b0
           try clear c18b1
           try clear c19
           try clear c19b0
           try clear c19b1
           try clear c20
           try clear c20b0
           try clear c20b1
           try clear c21
           try clear c21b0
           try clear c21b1
           try clear c22
           try clear c22b0
           try clear c22b1
           try clear c23
           try clear c23b0
           try clear c23b1
           try clear c24
           try clear c24b0
           try clear c24b1
           try clear c25
           try clear c25b0
           try clear c26
           try clear c26b0
           try clear c27
           try clear c27b0
           try clear c27b1
           try clear c28
           try clear c28b0
           try clear c28b1
           try clear c29
           try clear c29b0
           try clear c29b1
           try clear c30
           try clear c30b0
           try clear c30b1
           try clear c31
           try clear c31b0
           try clear c31b1
           try clear c32
           try clear c32b0
           try clear c32b1
           try clear c33
           try clear c33b0
           try clear c33b1
           try clear c34
           try clear c34b0
           try clear c34b1
           try clear c35
           try clear c37
           try clear c37b0
           try clear c38
           try clear c40
           try clear c40b0
           try clear c40b1
           try clear hcz10_0 hcz10_1 hcz10_2 hcz10_3 hcz10_4 hcz10_5
           try clear hcz7_0 hcz7_1 hcz7_2 hcz7_3 hcz7_4 hcz7_5
           try clear hcz9_0 hcz9_1 hcz9_2 hcz9_3 hcz9_4 hcz9_5
           try clear hfz10_0 hfz10_1 hfz10_2 hfz10_3 hfz10_4 hfz10_5
           try clear hfz7_0 hfz7_1 hfz7_2 hfz7_3 hfz7_4 hfz7_5
           try clear hfz9_0 hfz9_1 hfz9_2 hfz9_3 hfz9_4 hfz9_5
           try clear p2
           obtain ⟨kq, x56_38, rfl, HA, HJ38, BK108, HB⟩ := hcut
           cases kq with
           | zero => exact absurd HA.out (by simp [drachmref07_Kind.j3])
           | succ kj38 =>
            have H := HA.out
            clear HA
            simp only [drachmref07_Kind.j3] at H
            by_cases c41 : x56_38 = true
            ·subst c41
             have H1 : (some 3) = some r := by rw [if_pos rfl] at H; exact H
             clear H
             have H := H1
             clear H1
             obtain rfl := Option.some.inj H
             go_wp2
             go_ret
             exact ⟨by first | rfl | (simp [errW_none, errW_some] <;> rfl) | (simp [*, errW_none, errW_some] <;> rfl), bl HB.out⟩
            ·replace c41 := Bool.eq_false_iff.mpr c41
             subst c41
             have H1 : (if a1 = 40 then (some 7) else (if a1 = 41 then (some 8) else (if a1 = t103 then (some 4) else (if a1 = t104 then (some 5) else (if a1 = t105 then (some 6) else (if a1 = t106 then (some 9) else (if a1 = t107 then (some 10) else (some 0)))))))) = some r := by rw [if_neg (show ¬ (false = true) by decide)] at H; exact H
             clear H
             have H := H1
             clear H1
             by_cases c42 : a1 = 40
             ·rw [if_pos c42] at H
              have c42b0 : (a1 == 40) = true := beq_iff_eq.mpr c42
              have c42b1 : (a1 != 40) = false := bne_eq_false_iff_eq.mpr c42
              clear c42
              obtain rfl := Option.some.inj H
              go_wp2
              go_ret
              exact ⟨by first | rfl | (simp [errW_none, errW_some] <;> rfl) | (simp [*, errW_none, errW_some] <;> rfl), bl HB.out⟩
             ·rw [if_neg c42] at H
              have c42b0 : (a1 == 40) = false := beq_eq_false_iff_ne.mpr c42
              have c42b1 : (a1 != 40) = true := bne_iff_ne.mpr c42
              by_cases c43 : a1 = 41
              ·rw [if_pos c43] at H
               have c43b0 : (a1 == 41) = true := beq_iff_eq.mpr c43
               have c43b1 : (a1 != 41) = false := bne_eq_false_iff_eq.mpr c43
               clear c43
               obtain rfl := Option.some.inj H
               go_wp2
               go_ret
               exact ⟨by first | rfl | (simp [errW_none, errW_some] <;> rfl) | (simp [*, errW_none, errW_some] <;> rfl), bl HB.out⟩
              ·rw [if_neg c43] at H
               have c43b0 : (a1 == 41) = false := beq_eq_false_iff_ne.mpr c43
               have c43b1 : (a1 != 41) = true := bne_iff_ne.mpr c43
               by_cases c44 : a1 = t103
               ·rw [if_pos c44] at H
                have c44b0 : (a1 == t103) = true := beq_iff_eq.mpr c44
                have c44b1 : (a1 != t103) = false := bne_eq_false_iff_eq.mpr c44
                clear c44
                obtain rfl := Option.some.inj H
                have hcz45_0 : wc.cell? ⟨gb108, 0, none⟩ = some (.bool t102) := (blk_cell BK108.out 0).trans rfl
                have hcz45_1 : wc.cell? ⟨gb108, 1, none⟩ = some (.int .u8 t103) := (blk_cell BK108.out 1).trans rfl
                have hcz45_2 : wc.cell? ⟨gb108, 2, none⟩ = some (.int .u8 t104) := (blk_cell BK108.out 2).trans rfl
                have hcz45_3 : wc.cell? ⟨gb108, 3, none⟩ = some (.int .u8 t105) := (blk_cell BK108.out 3).trans rfl
                have hcz45_4 : wc.cell? ⟨gb108, 4, none⟩ = some (.int .u8 t106) := (blk_cell BK108.out 4).trans rfl
                have hcz45_5 : wc.cell? ⟨gb108, 5, none⟩ = some (.int .u8 t107) := (blk_cell BK108.out 5).trans rfl
                have hfz45_0 := blk_frozen BK108.out 0
                have hfz45_1 := blk_frozen BK108.out 1
                have hfz45_2 := blk_frozen BK108.out 2
                have hfz45_3 := blk_frozen BK108.out 3
                have hfz45_4 := blk_frozen BK108.out 4
                have hfz45_5 := blk_frozen BK108.out 5
                go_wp2
                go_ret
                exact ⟨by first | rfl | (simp [errW_none, errW_some] <;> rfl) | (simp [*, errW_none, errW_some] <;> rfl), bl HB.out⟩
               ·rw [if_neg c44] at H
                have c44b0 : (a1 == t103) = false := beq_eq_false_iff_ne.mpr c44
                have c44b1 : (a1 != t103) = true := bne_iff_ne.mpr c44
                by_cases c46 : a1 = t104
                ·rw [if_pos c46] at H
                 have c46b0 : (a1 == t104) = true := beq_iff_eq.mpr c46
                 have c46b1 : (a1 != t104) = false := bne_eq_false_iff_eq.mpr c46
                 clear c46
                 obtain rfl := Option.some.inj H
                 have hcz47_0 : wc.cell? ⟨gb108, 0, none⟩ = some (.bool t102) := (blk_cell BK108.out 0).trans rfl
                 have hcz47_1 : wc.cell? ⟨gb108, 1, none⟩ = some (.int .u8 t103) := (blk_cell BK108.out 1).trans rfl
                 have hcz47_2 : wc.cell? ⟨gb108, 2, none⟩ = some (.int .u8 t104) := (blk_cell BK108.out 2).trans rfl
                 have hcz47_3 : wc.cell? ⟨gb108, 3, none⟩ = some (.int .u8 t105) := (blk_cell BK108.out 3).trans rfl
                 have hcz47_4 : wc.cell? ⟨gb108, 4, none⟩ = some (.int .u8 t106) := (blk_cell BK108.out 4).trans rfl
                 have hcz47_5 : wc.cell? ⟨gb108, 5, none⟩ = some (.int .u8 t107) := (blk_cell BK108.out 5).trans rfl
                 have hfz47_0 := blk_frozen BK108.out 0
                 have hfz47_1 := blk_frozen BK108.out 1
                 have hfz47_2 := blk_frozen BK108.out 2
                 have hfz47_3 := blk_frozen BK108.out 3
                 have hfz47_4 := blk_frozen BK108.out 4
                 have hfz47_5 := blk_frozen BK108.out 5
                 go_wp2
                 go_ret
                 exact ⟨by first | rfl | (simp [errW_none, errW_some] <;> rfl) | (simp [*, errW_none, errW_some] <;> rfl), bl HB.out⟩
                ·rw [if_neg c46] at H
                 have c46b0 : (a1 == t104) = false := beq_eq_false_iff_ne.mpr c46
                 have c46b1 : (a1 != t104) = true := bne_iff_ne.mpr c46
                 by_cases c48 : a1 = t105
                 ·rw [if_pos c48] at H
                  have c48b0 : (a1 == t105) = true := beq_iff_eq.mpr c48
                  have c48b1 : (a1 != t105) = false := bne_eq_false_iff_eq.mpr c48
                  clear c48
                  obtain rfl := Option.some.inj H
                  have hcz49_0 : wc.cell? ⟨gb108, 0, none⟩ = some (.bool t102) := (blk_cell BK108.out 0).trans rfl
                  have hcz49_1 : wc.cell? ⟨gb108, 1, none⟩ = some (.int .u8 t103) := (blk_cell BK108.out 1).trans rfl
                  have hcz49_2 : wc.cell? ⟨gb108, 2, none⟩ = some (.int .u8 t104) := (blk_cell BK108.out 2).trans rfl
                  have hcz49_3 : wc.cell? ⟨gb108, 3, none⟩ = some (.int .u8 t105) := (blk_cell BK108.out 3).trans rfl
                  have hcz49_4 : wc.cell? ⟨gb108, 4, none⟩ = some (.int .u8 t106) := (blk_cell BK108.out 4).trans rfl
                  have hcz49_5 : wc.cell? ⟨gb108, 5, none⟩ = some (.int .u8 t107) := (blk_cell BK108.out 5).trans rfl
                  have hfz49_0 := blk_frozen BK108.out 0
                  have hfz49_1 := blk_frozen BK108.out 1
                  have hfz49_2 := blk_frozen BK108.out 2
                  have hfz49_3 := blk_frozen BK108.out 3
                  have hfz49_4 := blk_frozen BK108.out 4
                  have hfz49_5 := blk_frozen BK108.out 5
                  go_wp2
                  go_ret
                  exact ⟨by first | rfl | (simp [errW_none, errW_some] <;> rfl) | (simp [*, errW_none, errW_some] <;> rfl), bl HB.out⟩
                 ·rw [if_neg c48] at H
                  have c48b0 : (a1 == t105) = false := beq_eq_false_iff_ne.mpr c48
                  have c48b1 : (a1 != t105) = true := bne_iff_ne.mpr c48
                  by_cases c50 : a1 = t106
                  ·rw [if_pos c50] at H
                   have c50b0 : (a1 == t106) = true := beq_iff_eq.mpr c50
                   have c50b1 : (a1 != t106) = false := bne_eq_false_iff_eq.mpr c50
                   clear c50
                   obtain rfl := Option.some.inj H
                   have hcz51_0 : wc.cell? ⟨gb108, 0, none⟩ = some (.bool t102) := (blk_cell BK108.out 0).trans rfl
                   have hcz51_1 : wc.cell? ⟨gb108, 1, none⟩ = some (.int .u8 t103) := (blk_cell BK108.out 1).trans rfl
                   have hcz51_2 : wc.cell? ⟨gb108, 2, none⟩ = some (.int .u8 t104) := (blk_cell BK108.out 2).trans rfl
                   have hcz51_3 : wc.cell? ⟨gb108, 3, none⟩ = some (.int .u8 t105) := (blk_cell BK108.out 3).trans rfl
                   have hcz51_4 : wc.cell? ⟨gb108, 4, none⟩ = some (.int .u8 t106) := (blk_cell BK108.out 4).trans rfl
                   have hcz51_5 : wc.cell? ⟨gb108, 5, none⟩ = some (.int .u8 t107) := (blk_cell BK108.out 5).trans rfl
                   have hfz51_0 := blk_frozen BK108.out 0
                   have hfz51_1 := blk_frozen BK108.out 1
                   have hfz51_2 := blk_frozen BK108.out 2
                   have hfz51_3 := blk_frozen BK108.out 3
                   have hfz51_4 := blk_frozen BK108.out 4
                   have hfz51_5 := blk_frozen BK108.out 5
                   go_wp2
                   go_ret
                   exact ⟨by first | rfl | (simp [errW_none, errW_some] <;> rfl) | (simp [*, errW_none, errW_some] <;> rfl), bl HB.out⟩
                  ·rw [if_neg c50] at H
                   have c50b0 : (a1 == t106) = false := beq_eq_false_iff_ne.mpr c50
                   have c50b1 : (a1 != t106) = true := bne_iff_ne.mpr c50
                   by_cases c52 : a1 = t107
                   ·rw [if_pos c52] at H
                    have c52b0 : (a1 == t107) = true := beq_iff_eq.mpr c52
                    have c52b1 : (a1 != t107) = false := bne_eq_false_iff_eq.mpr c52
                    clear c52
                    obtain rfl := Option.some.inj H
                    have hcz53_0 : wc.cell? ⟨gb108, 0, none⟩ = some (.bool t102) := (blk_cell BK108.out 0).trans rfl
                    have hcz53_1 : wc.cell? ⟨gb108, 1, none⟩ = some (.int .u8 t103) := (blk_cell BK108.out 1).trans rfl
                    have hcz53_2 : wc.cell? ⟨gb108, 2, none⟩ = some (.int .u8 t104) := (blk_cell BK108.out 2).trans rfl
                    have hcz53_3 : wc.cell? ⟨gb108, 3, none⟩ = some (.int .u8 t105) := (blk_cell BK108.out 3).trans rfl
                    have hcz53_4 : wc.cell? ⟨gb108, 4, none⟩ = some (.int .u8 t106) := (blk_cell BK108.out 4).trans rfl
                    have hcz53_5 : wc.cell? ⟨gb108, 5, none⟩ = some (.int .u8 t107) := (blk_cell BK108.out 5).trans rfl
                    have hfz53_0 := blk_frozen BK108.out 0
                    have hfz53_1 := blk_frozen BK108.out 1
                    have hfz53_2 := blk_frozen BK108.out 2
                    have hfz53_3 := blk_frozen BK108.out 3
                    have hfz53_4 := blk_frozen BK108.out 4
                    have hfz53_5 := blk_frozen BK108.out 5
                    go_wp2
                    go_ret
                    exact ⟨by first | rfl | (simp [errW_none, errW_some] <;> rfl) | (simp [*, errW_none, errW_some] <;> rfl), bl HB.out⟩
                   ·rw [if_neg c52] at H
                    have c52b0 : (a1 == t107) = false := beq_eq_false_iff_ne.mpr c52
                    have c52b1 : (a1 != t107) = true := bne_iff_ne.mpr c52
                    obtain rfl := Option.some.inj H
                    have hcz54_0 : wc.cell? ⟨gb108, 0, none⟩ = some (.bool t102) := (blk_cell BK108.out 0).trans rfl
                    have hcz54_1 : wc.cell? ⟨gb108, 1, none⟩ = some (.int .u8 t103) := (blk_cell BK108.out 1).trans rfl
                    have hcz54_2 : wc.cell? ⟨gb108, 2, none⟩ = some (.int .u8 t104) := (blk_cell BK108.out 2).trans rfl
                    have hcz54_3 : wc.cell? ⟨gb108, 3, none⟩ = some (.int .u8 t105) := (blk_cell BK108.out 3).trans rfl
                    have hcz54_4 : wc.cell? ⟨gb108, 4, none⟩ = some (.int .u8 t106) := (blk_cell BK108.out 4).trans rfl
                    have hcz54_5 : wc.cell? ⟨gb108, 5, none⟩ = some (.int .u8 t107) := (blk_cell BK108.out 5).trans rfl
                    have hfz54_0 := blk_frozen BK108.out 0
                    have hfz54_1 := blk_frozen BK108.out 1
                    have hfz54_2 := blk_frozen BK108.out 2
                    have hfz54_3 := blk_frozen BK108.out 3
                    have hfz54_4 := blk_frozen BK108.out 4
                    have hfz54_5 := blk_frozen BK108.out 5
                    go_wp2
                    go_ret
                    exact ⟨by first | rfl | (simp [errW_none, errW_some] <;> rfl) | (simp [*, errW_none, errW_some] <;> rfl), bl HB.out⟩

/-! ### drachmref07_Raise: function 40 -/
def drachmref07_Raise.l0 : Nat → ByteArray → Bool → ByteArray → Int → Option (ByteArray)
 | 0, _, _, _, _ => none
 | k + 1, x1, x5, x6, x7 => if x7 < (x1.size : Int) then (if 0 ≤ x7 then (if x5 = true then (if (bt x1 x7) ≥ 97 then (if (bt x1 x7) ≤ 122 then ((some (([((bt x1 x7) - 32) % 256] : List Int) : List Int)).bind fun y115 => (if x6.size + (strOfNums y115).size ≤ 9223372036854775807 then (drachmref07_Raise.l0 k x1 x5 (x6 ++ (strOfNums y115)) (wrap64 (x7 + 1))) else (none))) else ((some (([bt x1 x7] : List Int) : List Int)).bind fun y118 => (if x6.size + (strOfNums y118).size ≤ 9223372036854775807 then (drachmref07_Raise.l0 k x1 x5 (x6 ++ (strOfNums y118)) (wrap64 (x7 + 1))) else (none)))) else ((some (([bt x1 x7] : List Int) : List Int)).bind fun y121 => (if x6.size + (strOfNums y121).size ≤ 9223372036854775807 then (drachmref07_Raise.l0 k x1 x5 (x6 ++ (strOfNums y121)) (wrap64 (x7 + 1))) else (none)))) else ((some (([bt x1 x7] : List Int) : List Int)).bind fun y124 => (if x6.size + (strOfNums y124).size ≤ 9223372036854775807 then (drachmref07_Raise.l0 k x1 x5 (x6 ++ (strOfNums y124)) (wrap64 (x7 + 1))) else (none)))) else (none)) else (some x6)
def drachmref07_Raise.f (k : Nat) (a0 : Int) (a1 : ByteArray) : Option (ByteArray) := (drachmref07_Of.f a0).bind fun bt109 => (drachmref07_Raise.l0 k a1 bt109.1 (⟨#[]⟩ : ByteArray) 0)
theorem drachmref07_Raise.mono_l : ∀ k, (∀ y0 y1 y2 y3, LeO (drachmref07_Raise.l0 k y0 y1 y2 y3) (drachmref07_Raise.l0 (k + 1) y0 y1 y2 y3))
 | 0 => fun _ _ _ _ r h => by simp [drachmref07_Raise.l0] at h
 | k + 1 => by
  have ih0 := drachmref07_Raise.mono_l k
  ·intro y0 y1 y2 y3
   unfold drachmref07_Raise.l0
   repeat' first
   | (with_reducible exact ih0 _ _ _ _)
   | (with_reducible exact LeO.refl _)
   | (with_reducible exact LeO.none _)
   | (with_reducible refine LeO.ite ?_ ?_)
   | (with_reducible refine LeO.bind ?_ (fun _ => ?_))
   | exact ih0 _ _ _ _
   | exact LeO.none _
   | refine LeO.ite ?_ ?_
   | refine LeO.bind ?_ (fun _ => ?_)
theorem drachmref07_Raise.mono : ∀ a0 a1 k, LeO (drachmref07_Raise.f k a0 a1) (drachmref07_Raise.f (k + 1) a0 a1) := by
 intro a0 a1 k
 have ih0 := drachmref07_Raise.mono_l k
 unfold drachmref07_Raise.f
 repeat' first
   | (with_reducible exact ih0 _ _ _ _)
   | (with_reducible exact LeO.refl _)
   | (with_reducible exact LeO.none _)
   | (with_reducible refine LeO.ite ?_ ?_)
   | (with_reducible refine LeO.bind ?_ (fun _ => ?_))
   | exact ih0 _ _ _ _
   | exact LeO.none _
   | refine LeO.ite ?_ ?_
   | refine LeO.bind ?_ (fun _ => ?_)
set_option maxHeartbeats 8000000 in
set_option maxRecDepth 100000 in
theorem drachmref07_Raise.calls (k : Nat) (a0 : Int) (a1 : ByteArray) (r : ByteArray) (w : World) (h : drachmref07_Raise.f k a0 a1 = some r) :
  Calls Tryd.prog 40 #[.int .i64 a0, .string a1] w fun e w' => e = .returned (.string r) ∧ Below w.heap.size w w' := by
 have hfd38_0 : ∀ (y0_ y1_ y2_ y3_ y4_ y5_ : Value) (W : World), (Instr.field 38 (.agg #[y0_, y1_, y2_, y3_, y4_, y5_]) 0).run Tryd.prog W = .ok (y0_) W := by intro y0_ y1_ y2_ y3_ y4_ y5_ W; first | kernel_rfl | rfl
 have HB := Aside0.mk (Below.refl w.heap.size w)
 have H : ((drachmref07_Of.f a0).bind fun bt109 => (drachmref07_Raise.l0 k a1 bt109.1 (⟨#[]⟩ : ByteArray) 0)) = some r := h
 clear h
 replace H := Option.bind_eq_some_iff.mp H
 obtain ⟨⟨t109, t110, t111, t112, t113, t114⟩, A30, H⟩ := H
 replace H : (drachmref07_Raise.l0 k a1 t109 (⟨#[]⟩ : ByteArray) 0) = some r := H
 have A3 := Aside0.mk A30
 clear A30
 have H' := Aside0.mk H
 clear H
 go_enter Tryd.func40, Tryd.ntmps40
 go_wp2_with (first | (go_at_call 17; (with_reducible refine (drachmref07_Of.calls a0 t109 t110 t111 t112 t113 t114 _ A3.out).mono ?_); rintro e w4 ⟨rfl, hb⟩; replace HB := sb HB hb; (try clear hb); (try clear hb2); (try clear hk); (try clear hi)))
 go_loopg [6, 7] k (fun kq v6 v7 w' => ∃ (x6_1 : ByteArray) (x7_1 : Int), v6 = .string x6_1 ∧ v7 = .int .i64 x7_1 ∧ Aside0 (drachmref07_Raise.l0 kq a1 t109 x6_1 x7_1 = some r) ∧ Aside0 (kq ≤ k) ∧ Aside0 (Below w.heap.size w w'))
 case atStart => exact ⟨((⟨#[]⟩ : ByteArray)), (0), (by first | rfl | (simp; done) | (simp [*]; done)), (by first | rfl | (simp; done) | (simp [*]; done)), H', ⟨Nat.le_refl _⟩, ⟨bl HB.out⟩⟩
 case round =>
  clear H'
  try clear c1
  try clear p2
  try clear c4
  obtain ⟨x6_1, x7_1, rfl, rfl, HA, HK1, HB⟩ := hrel
  cases gk with
  | zero => exact absurd HA.out (by simp [drachmref07_Raise.l0])
  | succ k1 =>
   have H := HA.out
   clear HA
   simp only [drachmref07_Raise.l0] at H
   by_cases c5 : x7_1 < (a1.size : Int)
   ·rw [if_pos c5] at H
    have c5b0 : decide (x7_1 < (a1.size : Int)) = true := decide_eq_true c5
    clear c5
    by_cases c6 : 0 ≤ x7_1
    ·rw [if_pos c6] at H
     have c6b0 : decide (0 ≤ x7_1) = true := decide_eq_true c6
     clear c6
     by_cases c8 : t109 = true
     ·subst c8
      have H1 : (if (bt a1 x7_1) ≥ 97 then (if (bt a1 x7_1) ≤ 122 then ((some (([((bt a1 x7_1) - 32) % 256] : List Int) : List Int)).bind fun y115 => (if x6_1.size + (strOfNums y115).size ≤ 9223372036854775807 then (drachmref07_Raise.l0 k1 a1 true (x6_1 ++ (strOfNums y115)) (wrap64 (x7_1 + 1))) else (none))) else ((some (([bt a1 x7_1] : List Int) : List Int)).bind fun y118 => (if x6_1.size + (strOfNums y118).size ≤ 9223372036854775807 then (drachmref07_Raise.l0 k1 a1 true (x6_1 ++ (strOfNums y118)) (wrap64 (x7_1 + 1))) else (none)))) else ((some (([bt a1 x7_1] : List Int) : List Int)).bind fun y121 => (if x6_1.size + (strOfNums y121).size ≤ 9223372036854775807 then (drachmref07_Raise.l0 k1 a1 true (x6_1 ++ (strOfNums y121)) (wrap64 (x7_1 + 1))) else (none)))) = some r := by rw [if_pos rfl] at H; exact H
      clear H
      have H := H1
      clear H1
      by_cases c9 : (bt a1 x7_1) ≥ 97
      ·rw [if_pos c9] at H
       have c9b0 : decide (97 ≤ (bt a1 x7_1)) = true := decide_eq_true c9
       clear c9
       by_cases c10 : (bt a1 x7_1) ≤ 122
       ·rw [if_pos c10] at H
        have c10b0 : decide ((bt a1 x7_1) ≤ 122) = true := decide_eq_true c10
        clear c10
        obtain ⟨y115, hy115⟩ : ∃ y_ : List Int, y_ = (([((bt a1 x7_1) - 32) % 256] : List Int)) := ⟨_, rfl⟩
        replace H : (if x6_1.size + (strOfNums y115).size ≤ 9223372036854775807 then (drachmref07_Raise.l0 k1 a1 true (x6_1 ++ (strOfNums y115)) (wrap64 (x7_1 + 1))) else (none)) = some r := by first | (rw [hy115]; with_reducible exact H) | (have H2_ := (Option.bind_some _ _).symm.trans H; rw [hy115]; with_reducible exact H2_) | (have H2_ := (Option.bind_some _ _).symm.trans H; with_reducible exact H2_) | with_reducible exact H | (rw [hy115]; exact H) | exact H
        have Ny115 := Aside0.mk hy115
        clear hy115
        by_cases c11 : x6_1.size + (strOfNums y115).size ≤ 9223372036854775807
        ·rw [if_pos c11] at H
         have c11b0 := eq_true c11
         have c11b1 : decide (x6_1.size + (strOfNums y115).size ≤ 9223372036854775807) = true := decide_eq_true c11
         try have c11b2 : (9223372036854775807 < x6_1.size + (strOfNums y115).size) = False := eq_false (Nat.not_lt.2 c11)
         have H' := Aside0.mk H
         clear H
         have p7 : 0 ≤ (x7_1 : Int) := of_decide_eq_true (by first | (with_reducible assumption) | assumption)
         have q7 : x7_1 < (a1.size : Int) := of_decide_eq_true (by first | (with_reducible assumption) | assumption)
         have hx7 := bt_at a1 x7_1
         replace p7 := eq_true p7
         replace q7 := eq_true q7
         go_wp2_with (first | ((with_reducible refine gate_dst (N := 34) rfl ?_); refine Kd.R_lit (Kd.int .u8) _ 5 ?hg (N := 34) ?hd (xs := ([((bt a1 x7_1) - 32) % 256] : List Int)) (inner := [.int .u8 (((bt a1 x7_1) - 32) % 256)]) (ok := fun _ => True) (okp := fun _ => True) ?hr ?hp (fun _ hk => hk) trivial (Below.refl _ _) (Nat.le_refl _) (by simp) ?_; (case hd => rfl); (case hg => rfl); (case hr => first | (go_simp; done) | (go_simp; rfl)); (case hp => exact (Reps.one (show Kd.M (Kd.int .u8) _ _ _ (((bt a1 x7_1) - 32) % 256) [.int .u8 (((bt a1 x7_1) - 32) % 256)] from rfl) (Reps.none _ _))); intro v116 w12 ho13 hb hg_ hnew_; clear hg_ hnew_; (first | rw [← Ny115.out] at ho13 | (simp only [Int.reduceToNat] at ho13; rw [← Ny115.out] at ho13)); have HO117 := Aside0.mk (Kd.R_lower ho13 (below_size (bl HB.out))); replace HB := sb HB hb; clear hb ho13; have hcv14 := own_string (P := Tryd.prog) Tryd.underlying43 Tryd.underlying5 Tryd.underlying9 (Kd.own_of_R HO117.out)))
         go_roundg k1
         case measure => have := HK1.out; omega
         case rel => exact ⟨(x6_1 ++ (strOfNums y115)), (wrap64 (x7_1 + 1)), (by first | rfl | (simp; done) | (simp [*]; done)), (by first | rfl | (simp; done) | (simp [*]; done)), H', ⟨by have := HK1.out; omega⟩, ⟨bl HB.out⟩⟩
        ·rw [if_neg c11] at H
         exact absurd H (by simp)
       ·rw [if_neg c10] at H
        have c10b0 : decide ((bt a1 x7_1) ≤ 122) = false := decide_eq_false c10
        clear c10
        obtain ⟨y118, hy118⟩ : ∃ y_ : List Int, y_ = (([bt a1 x7_1] : List Int)) := ⟨_, rfl⟩
        replace H : (if x6_1.size + (strOfNums y118).size ≤ 9223372036854775807 then (drachmref07_Raise.l0 k1 a1 true (x6_1 ++ (strOfNums y118)) (wrap64 (x7_1 + 1))) else (none)) = some r := by first | (rw [hy118]; with_reducible exact H) | (have H2_ := (Option.bind_some _ _).symm.trans H; rw [hy118]; with_reducible exact H2_) | (have H2_ := (Option.bind_some _ _).symm.trans H; with_reducible exact H2_) | with_reducible exact H | (rw [hy118]; exact H) | exact H
        have Ny118 := Aside0.mk hy118
        clear hy118
        by_cases c15 : x6_1.size + (strOfNums y118).size ≤ 9223372036854775807
        ·rw [if_pos c15] at H
         have c15b0 := eq_true c15
         have c15b1 : decide (x6_1.size + (strOfNums y118).size ≤ 9223372036854775807) = true := decide_eq_true c15
         try have c15b2 : (9223372036854775807 < x6_1.size + (strOfNums y118).size) = False := eq_false (Nat.not_lt.2 c15)
         have H' := Aside0.mk H
         clear H
         have p7 : 0 ≤ (x7_1 : Int) := of_decide_eq_true (by first | (with_reducible assumption) | assumption)
         have q7 : x7_1 < (a1.size : Int) := of_decide_eq_true (by first | (with_reducible assumption) | assumption)
         have hx7 := bt_at a1 x7_1
         replace p7 := eq_true p7
         replace q7 := eq_true q7
         go_wp2_with (first | ((with_reducible refine gate_dst (N := 34) rfl ?_); refine Kd.R_lit (Kd.int .u8) _ 5 ?hg (N := 34) ?hd (xs := ([bt a1 x7_1] : List Int)) (inner := [.int .u8 (bt a1 x7_1)]) (ok := fun _ => True) (okp := fun _ => True) ?hr ?hp (fun _ hk => hk) trivial (Below.refl _ _) (Nat.le_refl _) (by simp) ?_; (case hd => rfl); (case hg => rfl); (case hr => first | (go_simp; done) | (go_simp; rfl)); (case hp => exact (Reps.one (show Kd.M (Kd.int .u8) _ _ _ (bt a1 x7_1) [.int .u8 (bt a1 x7_1)] from rfl) (Reps.none _ _))); intro v119 w16 ho17 hb hg_ hnew_; clear hg_ hnew_; (first | rw [← Ny118.out] at ho17 | (simp only [Int.reduceToNat] at ho17; rw [← Ny118.out] at ho17)); have HO120 := Aside0.mk (Kd.R_lower ho17 (below_size (bl HB.out))); replace HB := sb HB hb; clear hb ho17; have hcv18 := own_string (P := Tryd.prog) Tryd.underlying43 Tryd.underlying5 Tryd.underlying9 (Kd.own_of_R HO120.out)))
         go_roundg k1
         case measure => have := HK1.out; omega
         case rel => exact ⟨(x6_1 ++ (strOfNums y118)), (wrap64 (x7_1 + 1)), (by first | rfl | (simp; done) | (simp [*]; done)), (by first | rfl | (simp; done) | (simp [*]; done)), H', ⟨by have := HK1.out; omega⟩, ⟨bl HB.out⟩⟩
        ·rw [if_neg c15] at H
         exact absurd H (by simp)
      ·rw [if_neg c9] at H
       have c9b0 : decide (97 ≤ (bt a1 x7_1)) = false := decide_eq_false c9
       clear c9
       obtain ⟨y121, hy121⟩ : ∃ y_ : List Int, y_ = (([bt a1 x7_1] : List Int)) := ⟨_, rfl⟩
       replace H : (if x6_1.size + (strOfNums y121).size ≤ 9223372036854775807 then (drachmref07_Raise.l0 k1 a1 true (x6_1 ++ (strOfNums y121)) (wrap64 (x7_1 + 1))) else (none)) = some r := by first | (rw [hy121]; with_reducible exact H) | (have H2_ := (Option.bind_some _ _).symm.trans H; rw [hy121]; with_reducible exact H2_) | (have H2_ := (Option.bind_some _ _).symm.trans H; with_reducible exact H2_) | with_reducible exact H | (rw [hy121]; exact H) | exact H
       have Ny121 := Aside0.mk hy121
       clear hy121
       by_cases c19 : x6_1.size + (strOfNums y121).size ≤ 9223372036854775807
       ·rw [if_pos c19] at H
        have c19b0 := eq_true c19
        have c19b1 : decide (x6_1.size + (strOfNums y121).size ≤ 9223372036854775807) = true := decide_eq_true c19
        try have c19b2 : (9223372036854775807 < x6_1.size + (strOfNums y121).size) = False := eq_false (Nat.not_lt.2 c19)
        have H' := Aside0.mk H
        clear H
        have p7 : 0 ≤ (x7_1 : Int) := of_decide_eq_true (by first | (with_reducible assumption) | assumption)
        have q7 : x7_1 < (a1.size : Int) := of_decide_eq_true (by first | (with_reducible assumption) | assumption)
        have hx7 := bt_at a1 x7_1
        replace p7 := eq_true p7
        replace q7 := eq_true q7
        go_wp2_with (first | ((with_reducible refine gate_dst (N := 34) rfl ?_); refine Kd.R_lit (Kd.int .u8) _ 5 ?hg (N := 34) ?hd (xs := ([bt a1 x7_1] : List Int)) (inner := [.int .u8 (bt a1 x7_1)]) (ok := fun _ => True) (okp := fun _ => True) ?hr ?hp (fun _ hk => hk) trivial (Below.refl _ _) (Nat.le_refl _) (by simp) ?_; (case hd => rfl); (case hg => rfl); (case hr => first | (go_simp; done) | (go_simp; rfl)); (case hp => exact (Reps.one (show Kd.M (Kd.int .u8) _ _ _ (bt a1 x7_1) [.int .u8 (bt a1 x7_1)] from rfl) (Reps.none _ _))); intro v122 w20 ho21 hb hg_ hnew_; clear hg_ hnew_; (first | rw [← Ny121.out] at ho21 | (simp only [Int.reduceToNat] at ho21; rw [← Ny121.out] at ho21)); have HO123 := Aside0.mk (Kd.R_lower ho21 (below_size (bl HB.out))); replace HB := sb HB hb; clear hb ho21; have hcv22 := own_string (P := Tryd.prog) Tryd.underlying43 Tryd.underlying5 Tryd.underlying9 (Kd.own_of_R HO123.out)))
        go_roundg k1
        case measure => have := HK1.out; omega
        case rel => exact ⟨(x6_1 ++ (strOfNums y121)), (wrap64 (x7_1 + 1)), (by first | rfl | (simp; done) | (simp [*]; done)), (by first | rfl | (simp; done) | (simp [*]; done)), H', ⟨by have := HK1.out; omega⟩, ⟨bl HB.out⟩⟩
       ·rw [if_neg c19] at H
        exact absurd H (by simp)
     ·replace c8 := Bool.eq_false_iff.mpr c8
      subst c8
      have H1 : ((some (([bt a1 x7_1] : List Int) : List Int)).bind fun y124 => (if x6_1.size + (strOfNums y124).size ≤ 9223372036854775807 then (drachmref07_Raise.l0 k1 a1 false (x6_1 ++ (strOfNums y124)) (wrap64 (x7_1 + 1))) else (none))) = some r := by rw [if_neg (show ¬ (false = true) by decide)] at H; exact H
      clear H
      have H := H1
      clear H1
      obtain ⟨y124, hy124⟩ : ∃ y_ : List Int, y_ = (([bt a1 x7_1] : List Int)) := ⟨_, rfl⟩
      replace H : (if x6_1.size + (strOfNums y124).size ≤ 9223372036854775807 then (drachmref07_Raise.l0 k1 a1 false (x6_1 ++ (strOfNums y124)) (wrap64 (x7_1 + 1))) else (none)) = some r := by first | (rw [hy124]; with_reducible exact H) | (have H2_ := (Option.bind_some _ _).symm.trans H; rw [hy124]; with_reducible exact H2_) | (have H2_ := (Option.bind_some _ _).symm.trans H; with_reducible exact H2_) | with_reducible exact H | (rw [hy124]; exact H) | exact H
      have Ny124 := Aside0.mk hy124
      clear hy124
      by_cases c23 : x6_1.size + (strOfNums y124).size ≤ 9223372036854775807
      ·rw [if_pos c23] at H
       have c23b0 := eq_true c23
       have c23b1 : decide (x6_1.size + (strOfNums y124).size ≤ 9223372036854775807) = true := decide_eq_true c23
       try have c23b2 : (9223372036854775807 < x6_1.size + (strOfNums y124).size) = False := eq_false (Nat.not_lt.2 c23)
       have H' := Aside0.mk H
       clear H
       have p7 : 0 ≤ (x7_1 : Int) := of_decide_eq_true (by first | (with_reducible assumption) | assumption)
       have q7 : x7_1 < (a1.size : Int) := of_decide_eq_true (by first | (with_reducible assumption) | assumption)
       have hx7 := bt_at a1 x7_1
       replace p7 := eq_true p7
       replace q7 := eq_true q7
       go_wp2_with (first | ((with_reducible refine gate_dst (N := 34) rfl ?_); refine Kd.R_lit (Kd.int .u8) _ 5 ?hg (N := 34) ?hd (xs := ([bt a1 x7_1] : List Int)) (inner := [.int .u8 (bt a1 x7_1)]) (ok := fun _ => True) (okp := fun _ => True) ?hr ?hp (fun _ hk => hk) trivial (Below.refl _ _) (Nat.le_refl _) (by simp) ?_; (case hd => rfl); (case hg => rfl); (case hr => first | (go_simp; done) | (go_simp; rfl)); (case hp => exact (Reps.one (show Kd.M (Kd.int .u8) _ _ _ (bt a1 x7_1) [.int .u8 (bt a1 x7_1)] from rfl) (Reps.none _ _))); intro v125 w24 ho25 hb hg_ hnew_; clear hg_ hnew_; (first | rw [← Ny124.out] at ho25 | (simp only [Int.reduceToNat] at ho25; rw [← Ny124.out] at ho25)); have HO126 := Aside0.mk (Kd.R_lower ho25 (below_size (bl HB.out))); replace HB := sb HB hb; clear hb ho25; have hcv26 := own_string (P := Tryd.prog) Tryd.underlying43 Tryd.underlying5 Tryd.underlying9 (Kd.own_of_R HO126.out)))
       go_roundg k1
       case measure => have := HK1.out; omega
       case rel => exact ⟨(x6_1 ++ (strOfNums y124)), (wrap64 (x7_1 + 1)), (by first | rfl | (simp; done) | (simp [*]; done)), (by first | rfl | (simp; done) | (simp [*]; done)), H', ⟨by have := HK1.out; omega⟩, ⟨bl HB.out⟩⟩
      ·rw [if_neg c23] at H
       exact absurd H (by simp)
    ·rw [if_neg c6] at H
     exact absurd H (by simp)
   ·rw [if_neg c5] at H
    have c5b0 : decide (x7_1 < (a1.size : Int)) = false := decide_eq_false c5
    clear c5
    obtain rfl := Option.some.inj H
    go_wp2
    go_ret
    exact ⟨by first | rfl | (simp [errW_none, errW_some] <;> rfl) | (simp [*, errW_none, errW_some] <;> rfl), bl HB.out⟩

/-! ### drachmref07_Plain: function 19 -/
def drachmref07_Plain.l0 : Nat → ByteArray → Int → Bool → Int → Int → Int → Int → Int → Option (Bool)
 | 0, _, _, _, _, _, _, _, _ => none
 | k + 1, x1, x6, x134000, x134001, x134002, x134003, x134004, x134005 => if x6 < (x1.size : Int) then (if 0 ≤ x6 then (if (bt x1 x6) < 32 then (some false) else (if (bt x1 x6) > 126 then (some false) else (if (bt x1 x6) = x134004 then (some false) else (if (bt x1 x6) = x134005 then (some false) else (drachmref07_Plain.l0 k x1 (wrap64 (x6 + 1)) x134000 x134001 x134002 x134003 x134004 x134005))))) else (none)) else (some (x134004 != 0))
def drachmref07_Plain.f (k : Nat) (a0 : Int) (a1 : ByteArray) : Option (Bool) := (drachmref07_Of.f a0).bind fun bt127 => (drachmref07_Plain.l0 k a1 0 bt127.1 bt127.2.1 bt127.2.2.1 bt127.2.2.2.1 bt127.2.2.2.2.1 bt127.2.2.2.2.2)
theorem drachmref07_Plain.mono_l : ∀ k, (∀ y0 y1 y2 y3 y4 y5 y6 y7, LeO (drachmref07_Plain.l0 k y0 y1 y2 y3 y4 y5 y6 y7) (drachmref07_Plain.l0 (k + 1) y0 y1 y2 y3 y4 y5 y6 y7))
 | 0 => fun _ _ _ _ _ _ _ _ r h => by simp [drachmref07_Plain.l0] at h
 | k + 1 => by
  have ih0 := drachmref07_Plain.mono_l k
  ·intro y0 y1 y2 y3 y4 y5 y6 y7
   unfold drachmref07_Plain.l0
   repeat' first
   | (with_reducible exact ih0 _ _ _ _ _ _ _ _)
   | (with_reducible exact LeO.refl _)
   | (with_reducible exact LeO.none _)
   | (with_reducible refine LeO.ite ?_ ?_)
   | (with_reducible refine LeO.bind ?_ (fun _ => ?_))
   | exact ih0 _ _ _ _ _ _ _ _
   | exact LeO.none _
   | refine LeO.ite ?_ ?_
   | refine LeO.bind ?_ (fun _ => ?_)
theorem drachmref07_Plain.mono : ∀ a0 a1 k, LeO (drachmref07_Plain.f k a0 a1) (drachmref07_Plain.f (k + 1) a0 a1) := by
 intro a0 a1 k
 have ih0 := drachmref07_Plain.mono_l k
 unfold drachmref07_Plain.f
 repeat' first
   | (with_reducible exact ih0 _ _ _ _ _ _ _ _)
   | (with_reducible exact LeO.refl _)
   | (with_reducible exact LeO.none _)
   | (with_reducible refine LeO.ite ?_ ?_)
   | (with_reducible refine LeO.bind ?_ (fun _ => ?_))
   | exact ih0 _ _ _ _ _ _ _ _
   | exact LeO.none _
   | refine LeO.ite ?_ ?_
   | refine LeO.bind ?_ (fun _ => ?_)
set_option maxHeartbeats 8000000 in
set_option maxRecDepth 100000 in
theorem drachmref07_Plain.calls (k : Nat) (a0 : Int) (a1 : ByteArray) (r : Bool) (w : World) (h : drachmref07_Plain.f k a0 a1 = some r) :
  Calls Tryd.prog 19 #[.int .i64 a0, .string a1] w fun e w' => e = .returned (.bool r) ∧ Below w.heap.size w w' := by
 have hu38 := Tryd.underlying38
 have HB := Aside0.mk (Below.refl w.heap.size w)
 have H : ((drachmref07_Of.f a0).bind fun bt127 => (drachmref07_Plain.l0 k a1 0 bt127.1 bt127.2.1 bt127.2.2.1 bt127.2.2.2.1 bt127.2.2.2.2.1 bt127.2.2.2.2.2)) = some r := h
 clear h
 replace H := Option.bind_eq_some_iff.mp H
 obtain ⟨⟨t127, t128, t129, t130, t131, t132⟩, A30, H⟩ := H
 replace H : (drachmref07_Plain.l0 k a1 0 t127 t128 t129 t130 t131 t132) = some r := H
 have A3 := Aside0.mk A30
 clear A30
 have H' := Aside0.mk H
 clear H
 go_enter Tryd.func19, Tryd.ntmps19
 go_wp2_with (first | (go_at_call 17; (with_reducible refine (drachmref07_Of.calls a0 t127 t128 t129 t130 t131 t132 _ A3.out).mono ?_); rintro e w4 ⟨rfl, hb⟩; replace HB := sb HB hb; (try clear hb); (try clear hb2); (try clear hk); (try clear hi)) | ((with_reducible refine gate_dst (N := 5) rfl ?_); refine box_event ?hg (N := 5) ?hd (cs := #[.bool false, .int .u8 0, .int .u8 0, .int .u8 0, .int .u8 0, .int .u8 0]) (t := 38) ?hr ?_; (case hd => rfl); (case hg => rfl); (case hr => first | (go_simp; done) | (go_simp; rfl)); intro gb133 hg w5 hbox hb; have n0_ := sb HB hb; have n1_ := Aside0.mk (hbox); have n2_ := Aside0.mk ((by rw [hg]; exact (below_size (bl HB.out)) : w.heap.size ≤ gb133)); have n3_ := Aside0.mk ((by rw [hg]; exact (below_size (bl HB.out)) : w.heap.size ≤ gb133)); clear HB; have HB := n0_; have BK133 := n1_; have GW133 := n2_; have GE133 := n3_; clear n0_ n1_ n2_ n3_; clear hb hbox hg; have hcz6_0 : w5.cell? ⟨gb133, 0, none⟩ = some (.bool false) := (blk_cell BK133.out 0).trans rfl; have hcz6_1 : w5.cell? ⟨gb133, 1, none⟩ = some (.int .u8 0) := (blk_cell BK133.out 1).trans rfl; have hcz6_2 : w5.cell? ⟨gb133, 2, none⟩ = some (.int .u8 0) := (blk_cell BK133.out 2).trans rfl; have hcz6_3 : w5.cell? ⟨gb133, 3, none⟩ = some (.int .u8 0) := (blk_cell BK133.out 3).trans rfl; have hcz6_4 : w5.cell? ⟨gb133, 4, none⟩ = some (.int .u8 0) := (blk_cell BK133.out 4).trans rfl; have hcz6_5 : w5.cell? ⟨gb133, 5, none⟩ = some (.int .u8 0) := (blk_cell BK133.out 5).trans rfl; have hfz6_0 := blk_frozen BK133.out 0; have hfz6_1 := blk_frozen BK133.out 1; have hfz6_2 := blk_frozen BK133.out 2; have hfz6_3 := blk_frozen BK133.out 3; have hfz6_4 := blk_frozen BK133.out 4; have hfz6_5 := blk_frozen BK133.out 5))
 repeat (go_quiet (first | (go_at_call 17; (with_reducible refine (drachmref07_Of.calls a0 t127 t128 t129 t130 t131 t132 _ A3.out).mono ?_); rintro e w4 ⟨rfl, hb⟩; replace HB := sb HB hb; (try clear hb); (try clear hb2); (try clear hk); (try clear hi)) | ((with_reducible refine gate_dst (N := 5) rfl ?_); refine box_event ?hg (N := 5) ?hd (cs := #[.bool false, .int .u8 0, .int .u8 0, .int .u8 0, .int .u8 0, .int .u8 0]) (t := 38) ?hr ?_; (case hd => rfl); (case hg => rfl); (case hr => first | (go_simp; done) | (go_simp; rfl)); intro gb133 hg w5 hbox hb; have n0_ := sb HB hb; have n1_ := Aside0.mk (hbox); have n2_ := Aside0.mk ((by rw [hg]; exact (below_size (bl HB.out)) : w.heap.size ≤ gb133)); have n3_ := Aside0.mk ((by rw [hg]; exact (below_size (bl HB.out)) : w.heap.size ≤ gb133)); clear HB; have HB := n0_; have BK133 := n1_; have GW133 := n2_; have GE133 := n3_; clear n0_ n1_ n2_ n3_; clear hb hbox hg; have hcz6_0 : w5.cell? ⟨gb133, 0, none⟩ = some (.bool false) := (blk_cell BK133.out 0).trans rfl; have hcz6_1 : w5.cell? ⟨gb133, 1, none⟩ = some (.int .u8 0) := (blk_cell BK133.out 1).trans rfl; have hcz6_2 : w5.cell? ⟨gb133, 2, none⟩ = some (.int .u8 0) := (blk_cell BK133.out 2).trans rfl; have hcz6_3 : w5.cell? ⟨gb133, 3, none⟩ = some (.int .u8 0) := (blk_cell BK133.out 3).trans rfl; have hcz6_4 : w5.cell? ⟨gb133, 4, none⟩ = some (.int .u8 0) := (blk_cell BK133.out 4).trans rfl; have hcz6_5 : w5.cell? ⟨gb133, 5, none⟩ = some (.int .u8 0) := (blk_cell BK133.out 5).trans rfl; have hfz6_0 := blk_frozen BK133.out 0; have hfz6_1 := blk_frozen BK133.out 1; have hfz6_2 := blk_frozen BK133.out 2; have hfz6_3 := blk_frozen BK133.out 3; have hfz6_4 := blk_frozen BK133.out 4; have hfz6_5 := blk_frozen BK133.out 5)); try go_wp2_with (first | (go_at_call 17; (with_reducible refine (drachmref07_Of.calls a0 t127 t128 t129 t130 t131 t132 _ A3.out).mono ?_); rintro e w4 ⟨rfl, hb⟩; replace HB := sb HB hb; (try clear hb); (try clear hb2); (try clear hk); (try clear hi)) | ((with_reducible refine gate_dst (N := 5) rfl ?_); refine box_event ?hg (N := 5) ?hd (cs := #[.bool false, .int .u8 0, .int .u8 0, .int .u8 0, .int .u8 0, .int .u8 0]) (t := 38) ?hr ?_; (case hd => rfl); (case hg => rfl); (case hr => first | (go_simp; done) | (go_simp; rfl)); intro gb133 hg w5 hbox hb; have n0_ := sb HB hb; have n1_ := Aside0.mk (hbox); have n2_ := Aside0.mk ((by rw [hg]; exact (below_size (bl HB.out)) : w.heap.size ≤ gb133)); have n3_ := Aside0.mk ((by rw [hg]; exact (below_size (bl HB.out)) : w.heap.size ≤ gb133)); clear HB; have HB := n0_; have BK133 := n1_; have GW133 := n2_; have GE133 := n3_; clear n0_ n1_ n2_ n3_; clear hb hbox hg; have hcz6_0 : w5.cell? ⟨gb133, 0, none⟩ = some (.bool false) := (blk_cell BK133.out 0).trans rfl; have hcz6_1 : w5.cell? ⟨gb133, 1, none⟩ = some (.int .u8 0) := (blk_cell BK133.out 1).trans rfl; have hcz6_2 : w5.cell? ⟨gb133, 2, none⟩ = some (.int .u8 0) := (blk_cell BK133.out 2).trans rfl; have hcz6_3 : w5.cell? ⟨gb133, 3, none⟩ = some (.int .u8 0) := (blk_cell BK133.out 3).trans rfl; have hcz6_4 : w5.cell? ⟨gb133, 4, none⟩ = some (.int .u8 0) := (blk_cell BK133.out 4).trans rfl; have hcz6_5 : w5.cell? ⟨gb133, 5, none⟩ = some (.int .u8 0) := (blk_cell BK133.out 5).trans rfl; have hfz6_0 := blk_frozen BK133.out 0; have hfz6_1 := blk_frozen BK133.out 1; have hfz6_2 := blk_frozen BK133.out 2; have hfz6_3 := blk_frozen BK133.out 3; have hfz6_4 := blk_frozen BK133.out 4; have hfz6_5 := blk_frozen BK133.out 5)))
 go_loopg [6] k (fun kq v6 w' => ∃ (x6_1 : Int), v6 = .int .i64 x6_1 ∧ Aside0 (drachmref07_Plain.l0 kq a1 x6_1 t127 t128 t129 t130 t131 t132 = some r) ∧ Aside0 (kq ≤ k) ∧ Aside0 (w'.heap[gb133]? = some (.cells #[.bool t127, .int .u8 t128, .int .u8 t129, .int .u8 t130, .int .u8 t131, .int .u8 t132] 38 (0, 0))) ∧ Aside0 (Below w.heap.size w w'))
 case atStart => exact ⟨(0), (by first | rfl | (simp; done) | (simp [*]; done)), H', ⟨Nat.le_refl _⟩, ⟨kp (p6_5 (kp (p6_4 (kp (p6_3 (kp (p6_2 (kp (p6_1 (kp (p6_0 (kp BK133.out))))))))))))⟩, ⟨bl HB.out⟩⟩
 case round =>
  clear H'
  try clear c1
  try clear p2
  try clear hcz6_0 hcz6_1 hcz6_2 hcz6_3 hcz6_4 hcz6_5
  try clear hfz6_0 hfz6_1 hfz6_2 hfz6_3 hfz6_4 hfz6_5
  obtain ⟨x6_1, rfl, HA, HK1, BK133, HB⟩ := hrel
  cases gk with
  | zero => exact absurd HA.out (by simp [drachmref07_Plain.l0])
  | succ k1 =>
   have H := HA.out
   clear HA
   simp only [drachmref07_Plain.l0] at H
   by_cases c7 : x6_1 < (a1.size : Int)
   ·rw [if_pos c7] at H
    have c7b0 : decide (x6_1 < (a1.size : Int)) = true := decide_eq_true c7
    clear c7
    by_cases c8 : 0 ≤ x6_1
    ·rw [if_pos c8] at H
     have c8b0 : decide (0 ≤ x6_1) = true := decide_eq_true c8
     clear c8
     by_cases c10 : (bt a1 x6_1) < 32
     ·rw [if_pos c10] at H
      have c10b0 : decide ((bt a1 x6_1) < 32) = true := decide_eq_true c10
      clear c10
      obtain rfl := Option.some.inj H
      have p9 : 0 ≤ (x6_1 : Int) := of_decide_eq_true (by first | (with_reducible assumption) | assumption)
      have q9 : x6_1 < (a1.size : Int) := of_decide_eq_true (by first | (with_reducible assumption) | assumption)
      have hx9 := bt_at a1 x6_1
      replace p9 := eq_true p9
      replace q9 := eq_true q9
      go_wp2
      repeat (go_quiet (fail); try go_wp2)
      go_ret
      exact ⟨by first | rfl | (simp [errW_none, errW_some] <;> rfl) | (simp [*, errW_none, errW_some] <;> rfl), bl HB.out⟩
     ·rw [if_neg c10] at H
      have c10b0 : decide ((bt a1 x6_1) < 32) = false := decide_eq_false c10
      clear c10
      by_cases c12 : (bt a1 x6_1) > 126
      ·rw [if_pos c12] at H
       have c12b0 : decide (126 < (bt a1 x6_1)) = true := decide_eq_true c12
       clear c12
       obtain rfl := Option.some.inj H
       have p9 : 0 ≤ (x6_1 : Int) := of_decide_eq_true (by first | (with_reducible assumption) | assumption)
       have q9 : x6_1 < (a1.size : Int) := of_decide_eq_true (by first | (with_reducible assumption) | assumption)
       have hx9 := bt_at a1 x6_1
       replace p9 := eq_true p9
       replace q9 := eq_true q9
       have p11 : 0 ≤ (x6_1 : Int) := of_decide_eq_true (by first | (with_reducible assumption) | assumption)
       have q11 : x6_1 < (a1.size : Int) := of_decide_eq_true (by first | (with_reducible assumption) | assumption)
       have hx11 := bt_at a1 x6_1
       replace p11 := eq_true p11
       replace q11 := eq_true q11
       go_wp2
       repeat (go_quiet (fail); try go_wp2)
       go_ret
       exact ⟨by first | rfl | (simp [errW_none, errW_some] <;> rfl) | (simp [*, errW_none, errW_some] <;> rfl), bl HB.out⟩
      ·rw [if_neg c12] at H
       have c12b0 : decide (126 < (bt a1 x6_1)) = false := decide_eq_false c12
       clear c12
       by_cases c14 : (bt a1 x6_1) = t131
       ·rw [if_pos c14] at H
        have c14b0 : ((bt a1 x6_1) == t131) = true := beq_iff_eq.mpr c14
        have c14b1 : ((bt a1 x6_1) != t131) = false := bne_eq_false_iff_eq.mpr c14
        clear c14
        obtain rfl := Option.some.inj H
        have p9 : 0 ≤ (x6_1 : Int) := of_decide_eq_true (by first | (with_reducible assumption) | assumption)
        have q9 : x6_1 < (a1.size : Int) := of_decide_eq_true (by first | (with_reducible assumption) | assumption)
        have hx9 := bt_at a1 x6_1
        replace p9 := eq_true p9
        replace q9 := eq_true q9
        have p11 : 0 ≤ (x6_1 : Int) := of_decide_eq_true (by first | (with_reducible assumption) | assumption)
        have q11 : x6_1 < (a1.size : Int) := of_decide_eq_true (by first | (with_reducible assumption) | assumption)
        have hx11 := bt_at a1 x6_1
        replace p11 := eq_true p11
        replace q11 := eq_true q11
        have p13 : 0 ≤ (x6_1 : Int) := of_decide_eq_true (by first | (with_reducible assumption) | assumption)
        have q13 : x6_1 < (a1.size : Int) := of_decide_eq_true (by first | (with_reducible assumption) | assumption)
        have hx13 := bt_at a1 x6_1
        replace p13 := eq_true p13
        replace q13 := eq_true q13
        have hcz15_0 : wr.cell? ⟨gb133, 0, none⟩ = some (.bool t127) := (blk_cell BK133.out 0).trans rfl
        have hcz15_1 : wr.cell? ⟨gb133, 1, none⟩ = some (.int .u8 t128) := (blk_cell BK133.out 1).trans rfl
        have hcz15_2 : wr.cell? ⟨gb133, 2, none⟩ = some (.int .u8 t129) := (blk_cell BK133.out 2).trans rfl
        have hcz15_3 : wr.cell? ⟨gb133, 3, none⟩ = some (.int .u8 t130) := (blk_cell BK133.out 3).trans rfl
        have hcz15_4 : wr.cell? ⟨gb133, 4, none⟩ = some (.int .u8 t131) := (blk_cell BK133.out 4).trans rfl
        have hcz15_5 : wr.cell? ⟨gb133, 5, none⟩ = some (.int .u8 t132) := (blk_cell BK133.out 5).trans rfl
        have hfz15_0 := blk_frozen BK133.out 0
        have hfz15_1 := blk_frozen BK133.out 1
        have hfz15_2 := blk_frozen BK133.out 2
        have hfz15_3 := blk_frozen BK133.out 3
        have hfz15_4 := blk_frozen BK133.out 4
        have hfz15_5 := blk_frozen BK133.out 5
        go_wp2
        repeat (go_quiet (fail); try go_wp2)
        go_ret
        exact ⟨by first | rfl | (simp [errW_none, errW_some] <;> rfl) | (simp [*, errW_none, errW_some] <;> rfl), bl HB.out⟩
       ·rw [if_neg c14] at H
        have c14b0 : ((bt a1 x6_1) == t131) = false := beq_eq_false_iff_ne.mpr c14
        have c14b1 : ((bt a1 x6_1) != t131) = true := bne_iff_ne.mpr c14
        by_cases c17 : (bt a1 x6_1) = t132
        ·rw [if_pos c17] at H
         have c17b0 : ((bt a1 x6_1) == t132) = true := beq_iff_eq.mpr c17
         have c17b1 : ((bt a1 x6_1) != t132) = false := bne_eq_false_iff_eq.mpr c17
         clear c17
         obtain rfl := Option.some.inj H
         have p9 : 0 ≤ (x6_1 : Int) := of_decide_eq_true (by first | (with_reducible assumption) | assumption)
         have q9 : x6_1 < (a1.size : Int) := of_decide_eq_true (by first | (with_reducible assumption) | assumption)
         have hx9 := bt_at a1 x6_1
         replace p9 := eq_true p9
         replace q9 := eq_true q9
         have p11 : 0 ≤ (x6_1 : Int) := of_decide_eq_true (by first | (with_reducible assumption) | assumption)
         have q11 : x6_1 < (a1.size : Int) := of_decide_eq_true (by first | (with_reducible assumption) | assumption)
         have hx11 := bt_at a1 x6_1
         replace p11 := eq_true p11
         replace q11 := eq_true q11
         have p13 : 0 ≤ (x6_1 : Int) := of_decide_eq_true (by first | (with_reducible assumption) | assumption)
         have q13 : x6_1 < (a1.size : Int) := of_decide_eq_true (by first | (with_reducible assumption) | assumption)
         have hx13 := bt_at a1 x6_1
         replace p13 := eq_true p13
         replace q13 := eq_true q13
         have hcz18_0 : wr.cell? ⟨gb133, 0, none⟩ = some (.bool t127) := (blk_cell BK133.out 0).trans rfl
         have hcz18_1 : wr.cell? ⟨gb133, 1, none⟩ = some (.int .u8 t128) := (blk_cell BK133.out 1).trans rfl
         have hcz18_2 : wr.cell? ⟨gb133, 2, none⟩ = some (.int .u8 t129) := (blk_cell BK133.out 2).trans rfl
         have hcz18_3 : wr.cell? ⟨gb133, 3, none⟩ = some (.int .u8 t130) := (blk_cell BK133.out 3).trans rfl
         have hcz18_4 : wr.cell? ⟨gb133, 4, none⟩ = some (.int .u8 t131) := (blk_cell BK133.out 4).trans rfl
         have hcz18_5 : wr.cell? ⟨gb133, 5, none⟩ = some (.int .u8 t132) := (blk_cell BK133.out 5).trans rfl
         have hfz18_0 := blk_frozen BK133.out 0
         have hfz18_1 := blk_frozen BK133.out 1
         have hfz18_2 := blk_frozen BK133.out 2
         have hfz18_3 := blk_frozen BK133.out 3
         have hfz18_4 := blk_frozen BK133.out 4
         have hfz18_5 := blk_frozen BK133.out 5
         have p16 : 0 ≤ (x6_1 : Int) := of_decide_eq_true (by first | (with_reducible assumption) | assumption)
         have q16 : x6_1 < (a1.size : Int) := of_decide_eq_true (by first | (with_reducible assumption) | assumption)
         have hx16 := bt_at a1 x6_1
         replace p16 := eq_true p16
         replace q16 := eq_true q16
         go_wp2
         repeat (go_quiet (fail); try go_wp2)
         go_ret
         exact ⟨by first | rfl | (simp [errW_none, errW_some] <;> rfl) | (simp [*, errW_none, errW_some] <;> rfl), bl HB.out⟩
        ·rw [if_neg c17] at H
         have c17b0 : ((bt a1 x6_1) == t132) = false := beq_eq_false_iff_ne.mpr c17
         have c17b1 : ((bt a1 x6_1) != t132) = true := bne_iff_ne.mpr c17
         have H' := Aside0.mk H
         clear H
         have p9 : 0 ≤ (x6_1 : Int) := of_decide_eq_true (by first | (with_reducible assumption) | assumption)
         have q9 : x6_1 < (a1.size : Int) := of_decide_eq_true (by first | (with_reducible assumption) | assumption)
         have hx9 := bt_at a1 x6_1
         replace p9 := eq_true p9
         replace q9 := eq_true q9
         have p11 : 0 ≤ (x6_1 : Int) := of_decide_eq_true (by first | (with_reducible assumption) | assumption)
         have q11 : x6_1 < (a1.size : Int) := of_decide_eq_true (by first | (with_reducible assumption) | assumption)
         have hx11 := bt_at a1 x6_1
         replace p11 := eq_true p11
         replace q11 := eq_true q11
         have p13 : 0 ≤ (x6_1 : Int) := of_decide_eq_true (by first | (with_reducible assumption) | assumption)
         have q13 : x6_1 < (a1.size : Int) := of_decide_eq_true (by first | (with_reducible assumption) | assumption)
         have hx13 := bt_at a1 x6_1
         replace p13 := eq_true p13
         replace q13 := eq_true q13
         have hcz19_0 : wr.cell? ⟨gb133, 0, none⟩ = some (.bool t127) := (blk_cell BK133.out 0).trans rfl
         have hcz19_1 : wr.cell? ⟨gb133, 1, none⟩ = some (.int .u8 t128) := (blk_cell BK133.out 1).trans rfl
         have hcz19_2 : wr.cell? ⟨gb133, 2, none⟩ = some (.int .u8 t129) := (blk_cell BK133.out 2).trans rfl
         have hcz19_3 : wr.cell? ⟨gb133, 3, none⟩ = some (.int .u8 t130) := (blk_cell BK133.out 3).trans rfl
         have hcz19_4 : wr.cell? ⟨gb133, 4, none⟩ = some (.int .u8 t131) := (blk_cell BK133.out 4).trans rfl
         have hcz19_5 : wr.cell? ⟨gb133, 5, none⟩ = some (.int .u8 t132) := (blk_cell BK133.out 5).trans rfl
         have hfz19_0 := blk_frozen BK133.out 0
         have hfz19_1 := blk_frozen BK133.out 1
         have hfz19_2 := blk_frozen BK133.out 2
         have hfz19_3 := blk_frozen BK133.out 3
         have hfz19_4 := blk_frozen BK133.out 4
         have hfz19_5 := blk_frozen BK133.out 5
         have p16 : 0 ≤ (x6_1 : Int) := of_decide_eq_true (by first | (with_reducible assumption) | assumption)
         have q16 : x6_1 < (a1.size : Int) := of_decide_eq_true (by first | (with_reducible assumption) | assumption)
         have hx16 := bt_at a1 x6_1
         replace p16 := eq_true p16
         replace q16 := eq_true q16
         go_wp2
         repeat (go_quiet (fail); try go_wp2)
         go_roundg k1
         case measure => have := HK1.out; omega
         case rel => exact ⟨(wrap64 (x6_1 + 1)), (by first | rfl | (simp; done) | (simp [*]; done)), H', ⟨by have := HK1.out; omega⟩, ⟨kp BK133.out⟩, ⟨bl HB.out⟩⟩
    ·rw [if_neg c8] at H
     exact absurd H (by simp)
   ·rw [if_neg c7] at H
    have c7b0 : decide (x6_1 < (a1.size : Int)) = false := decide_eq_false c7
    clear c7
    obtain rfl := Option.some.inj H
    have hcz20_0 : wr.cell? ⟨gb133, 0, none⟩ = some (.bool t127) := (blk_cell BK133.out 0).trans rfl
    have hcz20_1 : wr.cell? ⟨gb133, 1, none⟩ = some (.int .u8 t128) := (blk_cell BK133.out 1).trans rfl
    have hcz20_2 : wr.cell? ⟨gb133, 2, none⟩ = some (.int .u8 t129) := (blk_cell BK133.out 2).trans rfl
    have hcz20_3 : wr.cell? ⟨gb133, 3, none⟩ = some (.int .u8 t130) := (blk_cell BK133.out 3).trans rfl
    have hcz20_4 : wr.cell? ⟨gb133, 4, none⟩ = some (.int .u8 t131) := (blk_cell BK133.out 4).trans rfl
    have hcz20_5 : wr.cell? ⟨gb133, 5, none⟩ = some (.int .u8 t132) := (blk_cell BK133.out 5).trans rfl
    have hfz20_0 := blk_frozen BK133.out 0
    have hfz20_1 := blk_frozen BK133.out 1
    have hfz20_2 := blk_frozen BK133.out 2
    have hfz20_3 := blk_frozen BK133.out 3
    have hfz20_4 := blk_frozen BK133.out 4
    have hfz20_5 := blk_frozen BK133.out 5
    go_wp2
    repeat (go_quiet (fail); try go_wp2)
    go_ret
    exact ⟨by first | rfl | (simp [errW_none, errW_some] <;> rfl) | (simp [*, errW_none, errW_some] <;> rfl), bl HB.out⟩

/-! ### style_Kind: function 31 -/
mutual
def style_Kind.j0 : Nat → Int → Bool → Bool → Int → Int → Int → Int → Int → Option (Int)
 | 0, _, _, _, _, _, _, _, _ => none
 | k + 1, x1, x17, x142000, x142001, x142002, x142003, x142004, x142005 => if x17 = true then (some 0) else (if 97 ≤ x1 then (style_Kind.j1 k x1 (decide (x1 ≤ 122)) x142000 x142001 x142002 x142003 x142004 x142005) else (style_Kind.j1 k x1 false x142000 x142001 x142002 x142003 x142004 x142005))
def style_Kind.j4 : Nat → Int → Bool → Int → Int → Int → Int → Int → Option (Int)
 | 0, _, _, _, _, _, _, _ => none
 | k + 1, x1, x142000, x142001, x142002, x142003, x142004, x142005 => if x1 = 43 then (style_Kind.j5 k x1 (x1 == 43) x142000 x142001 x142002 x142003 x142004 x142005) else (style_Kind.j5 k x1 (x1 == 45) x142000 x142001 x142002 x142003 x142004 x142005)
def style_Kind.j5 : Nat → Int → Bool → Bool → Int → Int → Int → Int → Int → Option (Int)
 | 0, _, _, _, _, _, _, _, _ => none
 | k + 1, x42, x43, x142000, x142001, x142002, x142003, x142004, x142005 => if x43 = true then (some 3) else (if x42 = 40 then (some 7) else (if x42 = 41 then (some 8) else (if x42 = x142001 then (some 4) else (if x42 = x142002 then (some 5) else (if x42 = x142003 then (some 6) else (if x42 = x142004 then (some 9) else (if x42 = x142005 then (some 10) else (some 0))))))))
def style_Kind.j1 : Nat → Int → Bool → Bool → Int → Int → Int → Int → Int → Option (Int)
 | 0, _, _, _, _, _, _, _, _ => none
 | k + 1, x1, x18, x142000, x142001, x142002, x142003, x142004, x142005 => if x18 = true then (some 1) else (if 65 ≤ x1 then (style_Kind.j2 k x1 (decide (x1 ≤ 90)) x142000 x142001 x142002 x142003 x142004 x142005) else (style_Kind.j2 k x1 false x142000 x142001 x142002 x142003 x142004 x142005))
def style_Kind.j2 : Nat → Int → Bool → Bool → Int → Int → Int → Int → Int → Option (Int)
 | 0, _, _, _, _, _, _, _, _ => none
 | k + 1, x1, x25, x142000, x142001, x142002, x142003, x142004, x142005 => if x25 = true then (style_Kind.j3 k x1 x25 x142000 x142001 x142002 x142003 x142004 x142005) else ((strings_IndexByte.f (⟨#[37, 39, 95, 91, 93]⟩ : ByteArray) x1).bind fun t142 => (style_Kind.j3 k x1 (decide (t142 ≥ 0)) x142000 x142001 x142002 x142003 x142004 x142005))
def style_Kind.j3 : Nat → Int → Bool → Bool → Int → Int → Int → Int → Int → Option (Int)
 | 0, _, _, _, _, _, _, _, _ => none
 | k + 1, x1, x25, x142000, x142001, x142002, x142003, x142004, x142005 => if x25 = true then (some 1) else (if 48 ≤ x1 then (if x1 ≤ 57 then (some 2) else (style_Kind.j4 k x1 x142000 x142001 x142002 x142003 x142004 x142005)) else (style_Kind.j4 k x1 x142000 x142001 x142002 x142003 x142004 x142005))
end
def style_Kind.f (k : Nat) (a0 : Int) (a1 : Int) : Option (Int) := (style_Of.f a0).bind fun bt134 => (if bt134.2.2.2.2.2.2 = true then (style_Kind.j0 k a1 (a1 == 0) bt134.1 bt134.2.1 bt134.2.2.1 bt134.2.2.2.1 bt134.2.2.2.2.1 bt134.2.2.2.2.2.1) else (style_Kind.j0 k a1 true bt134.1 bt134.2.1 bt134.2.2.1 bt134.2.2.2.1 bt134.2.2.2.2.1 bt134.2.2.2.2.2.1))
theorem style_Kind.mono_l : ∀ k, (∀ y0 y1 y2 y3 y4 y5 y6 y7, LeO (style_Kind.j0 k y0 y1 y2 y3 y4 y5 y6 y7) (style_Kind.j0 (k + 1) y0 y1 y2 y3 y4 y5 y6 y7)) ∧ (∀ y0 y1 y2 y3 y4 y5 y6, LeO (style_Kind.j4 k y0 y1 y2 y3 y4 y5 y6) (style_Kind.j4 (k + 1) y0 y1 y2 y3 y4 y5 y6)) ∧ (∀ y0 y1 y2 y3 y4 y5 y6 y7, LeO (style_Kind.j5 k y0 y1 y2 y3 y4 y5 y6 y7) (style_Kind.j5 (k + 1) y0 y1 y2 y3 y4 y5 y6 y7)) ∧ (∀ y0 y1 y2 y3 y4 y5 y6 y7, LeO (style_Kind.j1 k y0 y1 y2 y3 y4 y5 y6 y7) (style_Kind.j1 (k + 1) y0 y1 y2 y3 y4 y5 y6 y7)) ∧ (∀ y0 y1 y2 y3 y4 y5 y6 y7, LeO (style_Kind.j2 k y0 y1 y2 y3 y4 y5 y6 y7) (style_Kind.j2 (k + 1) y0 y1 y2 y3 y4 y5 y6 y7)) ∧ (∀ y0 y1 y2 y3 y4 y5 y6 y7, LeO (style_Kind.j3 k y0 y1 y2 y3 y4 y5 y6 y7) (style_Kind.j3 (k + 1) y0 y1 y2 y3 y4 y5 y6 y7))
 | 0 => ⟨fun _ _ _ _ _ _ _ _ r h => by simp [style_Kind.j0] at h, fun _ _ _ _ _ _ _ r h => by simp [style_Kind.j4] at h, fun _ _ _ _ _ _ _ _ r h => by simp [style_Kind.j5] at h, fun _ _ _ _ _ _ _ _ r h => by simp [style_Kind.j1] at h, fun _ _ _ _ _ _ _ _ r h => by simp [style_Kind.j2] at h, fun _ _ _ _ _ _ _ _ r h => by simp [style_Kind.j3] at h⟩
 | k + 1 => by
  obtain ⟨ih0, ih1, ih2, ih3, ih4, ih5⟩ := style_Kind.mono_l k
  refine ⟨?_, ?_, ?_, ?_, ?_, ?_⟩
  ·intro y0 y1 y2 y3 y4 y5 y6 y7
   unfold style_Kind.j0
   repeat' first
   | (with_reducible exact ih0 _ _ _ _ _ _ _ _)
   | (with_reducible exact ih1 _ _ _ _ _ _ _)
   | (with_reducible exact ih2 _ _ _ _ _ _ _ _)
   | (with_reducible exact ih3 _ _ _ _ _ _ _ _)
   | (with_reducible exact ih4 _ _ _ _ _ _ _ _)
   | (with_reducible exact ih5 _ _ _ _ _ _ _ _)
   | (with_reducible exact LeO.refl _)
   | (with_reducible exact LeO.none _)
   | (with_reducible refine LeO.ite ?_ ?_)
   | (with_reducible refine LeO.bind ?_ (fun _ => ?_))
   | exact ih0 _ _ _ _ _ _ _ _
   | exact ih1 _ _ _ _ _ _ _
   | exact ih2 _ _ _ _ _ _ _ _
   | exact ih3 _ _ _ _ _ _ _ _
   | exact ih4 _ _ _ _ _ _ _ _
   | exact ih5 _ _ _ _ _ _ _ _
   | exact LeO.none _
   | refine LeO.ite ?_ ?_
   | refine LeO.bind ?_ (fun _ => ?_)
  ·intro y0 y1 y2 y3 y4 y5 y6
   unfold style_Kind.j4
   repeat' first
   | (with_reducible exact ih0 _ _ _ _ _ _ _ _)
   | (with_reducible exact ih1 _ _ _ _ _ _ _)
   | (with_reducible exact ih2 _ _ _ _ _ _ _ _)
   | (with_reducible exact ih3 _ _ _ _ _ _ _ _)
   | (with_reducible exact ih4 _ _ _ _ _ _ _ _)
   | (with_reducible exact ih5 _ _ _ _ _ _ _ _)
   | (with_reducible exact LeO.refl _)
   | (with_reducible exact LeO.none _)
   | (with_reducible refine LeO.ite ?_ ?_)
   | (with_reducible refine LeO.bind ?_ (fun _ => ?_))
   | exact ih0 _ _ _ _ _ _ _ _
   | exact ih1 _ _ _ _ _ _ _
   | exact ih2 _ _ _ _ _ _ _ _
   | exact ih3 _ _ _ _ _ _ _ _
   | exact ih4 _ _ _ _ _ _ _ _
   | exact ih5 _ _ _ _ _ _ _ _
   | exact LeO.none _
   | refine LeO.ite ?_ ?_
   | refine LeO.bind ?_ (fun _ => ?_)
  ·intro y0 y1 y2 y3 y4 y5 y6 y7
   unfold style_Kind.j5
   repeat' first
   | (with_reducible exact ih0 _ _ _ _ _ _ _ _)
   | (with_reducible exact ih1 _ _ _ _ _ _ _)
   | (with_reducible exact ih2 _ _ _ _ _ _ _ _)
   | (with_reducible exact ih3 _ _ _ _ _ _ _ _)
   | (with_reducible exact ih4 _ _ _ _ _ _ _ _)
   | (with_reducible exact ih5 _ _ _ _ _ _ _ _)
   | (with_reducible exact LeO.refl _)
   | (with_reducible exact LeO.none _)
   | (with_reducible refine LeO.ite ?_ ?_)
   | (with_reducible refine LeO.bind ?_ (fun _ => ?_))
   | exact ih0 _ _ _ _ _ _ _ _
   | exact ih1 _ _ _ _ _ _ _
   | exact ih2 _ _ _ _ _ _ _ _
   | exact ih3 _ _ _ _ _ _ _ _
   | exact ih4 _ _ _ _ _ _ _ _
   | exact ih5 _ _ _ _ _ _ _ _
   | exact LeO.none _
   | refine LeO.ite ?_ ?_
   | refine LeO.bind ?_ (fun _ => ?_)
  ·intro y0 y1 y2 y3 y4 y5 y6 y7
   unfold style_Kind.j1
   repeat' first
   | (with_reducible exact ih0 _ _ _ _ _ _ _ _)
   | (with_reducible exact ih1 _ _ _ _ _ _ _)
   | (with_reducible exact ih2 _ _ _ _ _ _ _ _)
   | (with_reducible exact ih3 _ _ _ _ _ _ _ _)
   | (with_reducible exact ih4 _ _ _ _ _ _ _ _)
   | (with_reducible exact ih5 _ _ _ _ _ _ _ _)
   | (with_reducible exact LeO.refl _)
   | (with_reducible exact LeO.none _)
   | (with_reducible refine LeO.ite ?_ ?_)
   | (with_reducible refine LeO.bind ?_ (fun _ => ?_))
   | exact ih0 _ _ _ _ _ _ _ _
   | exact ih1 _ _ _ _ _ _ _
   | exact ih2 _ _ _ _ _ _ _ _
   | exact ih3 _ _ _ _ _ _ _ _
   | exact ih4 _ _ _ _ _ _ _ _
   | exact ih5 _ _ _ _ _ _ _ _
   | exact LeO.none _
   | refine LeO.ite ?_ ?_
   | refine LeO.bind ?_ (fun _ => ?_)
  ·intro y0 y1 y2 y3 y4 y5 y6 y7
   unfold style_Kind.j2
   repeat' first
   | (with_reducible exact ih0 _ _ _ _ _ _ _ _)
   | (with_reducible exact ih1 _ _ _ _ _ _ _)
   | (with_reducible exact ih2 _ _ _ _ _ _ _ _)
   | (with_reducible exact ih3 _ _ _ _ _ _ _ _)
   | (with_reducible exact ih4 _ _ _ _ _ _ _ _)
   | (with_reducible exact ih5 _ _ _ _ _ _ _ _)
   | (with_reducible exact LeO.refl _)
   | (with_reducible exact LeO.none _)
   | (with_reducible refine LeO.ite ?_ ?_)
   | (with_reducible refine LeO.bind ?_ (fun _ => ?_))
   | exact ih0 _ _ _ _ _ _ _ _
   | exact ih1 _ _ _ _ _ _ _
   | exact ih2 _ _ _ _ _ _ _ _
   | exact ih3 _ _ _ _ _ _ _ _
   | exact ih4 _ _ _ _ _ _ _ _
   | exact ih5 _ _ _ _ _ _ _ _
   | exact LeO.none _
   | refine LeO.ite ?_ ?_
   | refine LeO.bind ?_ (fun _ => ?_)
  ·intro y0 y1 y2 y3 y4 y5 y6 y7
   unfold style_Kind.j3
   repeat' first
   | (with_reducible exact ih0 _ _ _ _ _ _ _ _)
   | (with_reducible exact ih1 _ _ _ _ _ _ _)
   | (with_reducible exact ih2 _ _ _ _ _ _ _ _)
   | (with_reducible exact ih3 _ _ _ _ _ _ _ _)
   | (with_reducible exact ih4 _ _ _ _ _ _ _ _)
   | (with_reducible exact ih5 _ _ _ _ _ _ _ _)
   | (with_reducible exact LeO.refl _)
   | (with_reducible exact LeO.none _)
   | (with_reducible refine LeO.ite ?_ ?_)
   | (with_reducible refine LeO.bind ?_ (fun _ => ?_))
   | exact ih0 _ _ _ _ _ _ _ _
   | exact ih1 _ _ _ _ _ _ _
   | exact ih2 _ _ _ _ _ _ _ _
   | exact ih3 _ _ _ _ _ _ _ _
   | exact ih4 _ _ _ _ _ _ _ _
   | exact ih5 _ _ _ _ _ _ _ _
   | exact LeO.none _
   | refine LeO.ite ?_ ?_
   | refine LeO.bind ?_ (fun _ => ?_)
theorem style_Kind.mono : ∀ a0 a1 k, LeO (style_Kind.f k a0 a1) (style_Kind.f (k + 1) a0 a1) := by
 intro a0 a1 k
 obtain ⟨ih0, ih1, ih2, ih3, ih4, ih5⟩ := style_Kind.mono_l k
 unfold style_Kind.f
 repeat' first
   | (with_reducible exact ih0 _ _ _ _ _ _ _ _)
   | (with_reducible exact ih1 _ _ _ _ _ _ _)
   | (with_reducible exact ih2 _ _ _ _ _ _ _ _)
   | (with_reducible exact ih3 _ _ _ _ _ _ _ _)
   | (with_reducible exact ih4 _ _ _ _ _ _ _ _)
   | (with_reducible exact ih5 _ _ _ _ _ _ _ _)
   | (with_reducible exact LeO.refl _)
   | (with_reducible exact LeO.none _)
   | (with_reducible refine LeO.ite ?_ ?_)
   | (with_reducible refine LeO.bind ?_ (fun _ => ?_))
   | exact ih0 _ _ _ _ _ _ _ _
   | exact ih1 _ _ _ _ _ _ _
   | exact ih2 _ _ _ _ _ _ _ _
   | exact ih3 _ _ _ _ _ _ _ _
   | exact ih4 _ _ _ _ _ _ _ _
   | exact ih5 _ _ _ _ _ _ _ _
   | exact LeO.none _
   | refine LeO.ite ?_ ?_
   | refine LeO.bind ?_ (fun _ => ?_)
set_option maxHeartbeats 8000000 in
set_option maxRecDepth 100000 in
theorem style_Kind.calls (k : Nat) (a0 : Int) (a1 : Int) (r : Int) (w : World) (hG : Glob [0] w) (h : style_Kind.f k a0 a1 = some r) :
  Calls Tryd.prog 31 #[.int .i64 a0, .int .u8 a1] w fun e w' => e = .returned (.int .i64 r) ∧ Below w.heap.size w w' := by
 have hu38 := Tryd.underlying38
 have HB := Aside0.mk (Below.refl w.heap.size w)
 have H : ((style_Of.f a0).bind fun bt134 => (if bt134.2.2.2.2.2.2 = true then (style_Kind.j0 k a1 (a1 == 0) bt134.1 bt134.2.1 bt134.2.2.1 bt134.2.2.2.1 bt134.2.2.2.2.1 bt134.2.2.2.2.2.1) else (style_Kind.j0 k a1 true bt134.1 bt134.2.1 bt134.2.2.1 bt134.2.2.2.1 bt134.2.2.2.2.1 bt134.2.2.2.2.2.1))) = some r := h
 clear h
 replace H := Option.bind_eq_some_iff.mp H
 obtain ⟨⟨t134, t135, t136, t137, t138, t139, t140⟩, A30, H⟩ := H
 replace H : (if t140 = true then (style_Kind.j0 k a1 (a1 == 0) t134 t135 t136 t137 t138 t139) else (style_Kind.j0 k a1 true t134 t135 t136 t137 t138 t139)) = some r := H
 have A3 := Aside0.mk A30
 clear A30
 have HC4 := Aside0.mk H
 clear H
 go_enter Tryd.func31, Tryd.ntmps31
 go_upto_region 2 with (first | (go_at_call 25; (with_reducible refine (style_Of.calls a0 t134 t135 t136 t137 t138 t139 t140 _ (Glob.use hG (by decide) (bl HB.out)) A3.out).mono ?_); rintro e w5 ⟨rfl, hb⟩; replace HB := sb HB hb; (try clear hb); (try clear hb2); (try clear hk); (try clear hi)) | ((with_reducible refine gate_dst (N := 5) rfl ?_); refine box_event ?hg (N := 5) ?hd (cs := #[.bool false, .int .u8 0, .int .u8 0, .int .u8 0, .int .u8 0, .int .u8 0]) (t := 38) ?hr ?_; (case hd => rfl); (case hg => rfl); (case hr => first | (go_simp; done) | (go_simp; rfl)); intro gb141 hg w6 hbox hb; have n0_ := sb HB hb; have n1_ := Aside0.mk (hbox); have n2_ := Aside0.mk ((by rw [hg]; exact (below_size (bl HB.out)) : w.heap.size ≤ gb141)); have n3_ := Aside0.mk ((by rw [hg]; exact (below_size (bl HB.out)) : w.heap.size ≤ gb141)); clear HB; have HB := n0_; have BK141 := n1_; have GW141 := n2_; have GE141 := n3_; clear n0_ n1_ n2_ n3_; clear hb hbox hg; have hcz7_0 : w6.cell? ⟨gb141, 0, none⟩ = some (.bool false) := (blk_cell BK141.out 0).trans rfl; have hcz7_1 : w6.cell? ⟨gb141, 1, none⟩ = some (.int .u8 0) := (blk_cell BK141.out 1).trans rfl; have hcz7_2 : w6.cell? ⟨gb141, 2, none⟩ = some (.int .u8 0) := (blk_cell BK141.out 2).trans rfl; have hcz7_3 : w6.cell? ⟨gb141, 3, none⟩ = some (.int .u8 0) := (blk_cell BK141.out 3).trans rfl; have hcz7_4 : w6.cell? ⟨gb141, 4, none⟩ = some (.int .u8 0) := (blk_cell BK141.out 4).trans rfl; have hcz7_5 : w6.cell? ⟨gb141, 5, none⟩ = some (.int .u8 0) := (blk_cell BK141.out 5).trans rfl; have hfz7_0 := blk_frozen BK141.out 0; have hfz7_1 := blk_frozen BK141.out 1; have hfz7_2 := blk_frozen BK141.out 2; have hfz7_3 := blk_frozen BK141.out 3; have hfz7_4 := blk_frozen BK141.out 4; have hfz7_5 := blk_frozen BK141.out 5))
 (try simp only [Act.put, List.setIfInBounds_toArray, List.set_cons_zero, List.set_cons_succ])
 go_cut [17] (fun v17 wc => ∃ (kq : Nat) (x17_3 : Bool), v17 = .bool x17_3 ∧ Aside0 (style_Kind.j0 kq a1 x17_3 t134 t135 t136 t137 t138 t139 = some r) ∧ Aside0 (kq ≤ k) ∧ Aside0 (wc.heap[gb141]? = some (.cells #[.bool t134, .int .u8 t135, .int .u8 t136, .int .u8 t137, .int .u8 t138, .int .u8 t139] 38 (0, 0))) ∧ Aside0 (Below w.heap.size w wc))
 case first =>
  have H := HC4.out
  clear HC4
  by_cases c8 : t140 = true
  ·subst c8
   have H1 : (style_Kind.j0 k a1 (a1 == 0) t134 t135 t136 t137 t138 t139) = some r := by rw [if_pos rfl] at H; exact H
   clear H
   have H := H1
   clear H1
   have H' := Aside0.mk H
   clear H
   go_wp2
   go_meet
   case rel => exact ⟨_, ((a1 == 0)), (by first | rfl | (simp; done) | (simp [*]; done)), H', ⟨by first | omega | exact Nat.le_refl _⟩, ⟨kp (p6_5 (kp (p6_4 (kp (p6_3 (kp (p6_2 (kp (p6_1 (kp (p6_0 (kp BK141.out))))))))))))⟩, ⟨bl HB.out⟩⟩
  ·replace c8 := Bool.eq_false_iff.mpr c8
   subst c8
   have H1 : (style_Kind.j0 k a1 true t134 t135 t136 t137 t138 t139) = some r := by rw [if_neg (show ¬ (false = true) by decide)] at H; exact H
   clear H
   have H := H1
   clear H1
   have H' := Aside0.mk H
   clear H
   go_wp2
   go_meet
   case rel => exact ⟨_, (true), (by first | rfl | (simp; done) | (simp [*]; done)), H', ⟨by first | omega | exact Nat.le_refl _⟩, ⟨kp (p6_5 (kp (p6_4 (kp (p6_3 (kp (p6_2 (kp (p6_1 (kp (p6_0 (kp BK141.out))))))))))))⟩, ⟨bl HB.out⟩⟩
 case rest =>
  clear HC4
  try clear c2
  try clear p2
  try clear c3
  try clear c8
  try clear hcz7_0 hcz7_1 hcz7_2 hcz7_3 hcz7_4 hcz7_5
  try clear hfz7_0 hfz7_1 hfz7_2 hfz7_3 hfz7_4 hfz7_5
  obtain ⟨kq, x17_3, rfl, HA, HJ3, BK141, HB⟩ := hcut
  cases kq with
  | zero => exact absurd HA.out (by simp [style_Kind.j0])
  | succ kj3 =>
   have H := HA.out
   clear HA
   simp only [style_Kind.j0] at H
   by_cases c9 : x17_3 = true
   ·subst c9
    have H1 : (some 0) = some r := by rw [if_pos rfl] at H; exact H
    clear H
    have H := H1
    clear H1
    obtain rfl := Option.some.inj H
    go_wp2
    go_ret
    exact ⟨by first | rfl | (simp [errW_none, errW_some] <;> rfl) | (simp [*, errW_none, errW_some] <;> rfl), bl HB.out⟩
   ·replace c9 := Bool.eq_false_iff.mpr c9
    subst c9
    have H1 : (if 97 ≤ a1 then (style_Kind.j1 kj3 a1 (decide (a1 ≤ 122)) t134 t135 t136 t137 t138 t139) else (style_Kind.j1 kj3 a1 false t134 t135 t136 t137 t138 t139)) = some r := by rw [if_neg (show ¬ (false = true) by decide)] at H; exact H
    clear H
    have H := H1
    clear H1
    have HC10 := Aside0.mk H
    clear H
    go_upto_block 0 with (fail)
    go_cut [] (fun wc => ∃ (kq : Nat), Aside0 (style_Kind.j4 kq a1 t134 t135 t136 t137 t138 t139 = some r) ∧ Aside0 (kq ≤ kj3) ∧ Aside0 (wc.heap[gb141]? = some (.cells #[.bool t134, .int .u8 t135, .int .u8 t136, .int .u8 t137, .int .u8 t138, .int .u8 t139] 38 (0, 0))) ∧ Aside0 (Below w.heap.size w wc))
    case first =>
     have H := HC10.out
     clear HC10
     have HC11 := Aside0.mk H
     clear H
     go_upto_region 4 with (fail)
     go_cut [18] (fun v18 wc => ∃ (kq : Nat) (x18_10 : Bool), v18 = .bool x18_10 ∧ Aside0 (style_Kind.j1 kq a1 x18_10 t134 t135 t136 t137 t138 t139 = some r) ∧ Aside0 (kq ≤ kj3) ∧ Aside0 (wc.heap[gb141]? = some (.cells #[.bool t134, .int .u8 t135, .int .u8 t136, .int .u8 t137, .int .u8 t138, .int .u8 t139] 38 (0, 0))) ∧ Aside0 (Below w.heap.size w wc))
     case first =>
      have H := HC11.out
      clear HC11
      by_cases c12 : 97 ≤ a1
      ·rw [if_pos c12] at H
       have c12b0 : decide (97 ≤ a1) = true := decide_eq_true c12
       clear c12
       (first | rw [c12b0] | (simp only [i64_w, i32_w]; rw [c12b0]) | skip)
       have H' := Aside0.mk H
       clear H
       go_wp2
       go_meet
       case rel => exact ⟨_, (decide (a1 ≤ 122)), (by first | rfl | (simp; done) | (simp [*]; done)), H', ⟨by have := HJ3.out; first | omega | exact Nat.le_refl _⟩, ⟨kp BK141.out⟩, ⟨bl HB.out⟩⟩
      ·rw [if_neg c12] at H
       have c12b0 : decide (97 ≤ a1) = false := decide_eq_false c12
       clear c12
       (first | rw [c12b0] | (simp only [i64_w, i32_w]; rw [c12b0]) | skip)
       have H' := Aside0.mk H
       clear H
       go_wp2
       go_meet
       case rel => exact ⟨_, (false), (by first | rfl | (simp; done) | (simp [*]; done)), H', ⟨by have := HJ3.out; first | omega | exact Nat.le_refl _⟩, ⟨kp BK141.out⟩, ⟨bl HB.out⟩⟩
     case rest =>
      clear HC11
      try clear c1
      try clear c2
      try clear p2
      try clear c3
      try clear c8
      try clear c9
      try clear c12
      try clear c12b0
      try clear hcz7_0 hcz7_1 hcz7_2 hcz7_3 hcz7_4 hcz7_5
      try clear hfz7_0 hfz7_1 hfz7_2 hfz7_3 hfz7_4 hfz7_5
      try clear p2
      obtain ⟨kq, x18_10, rfl, HA, HJ10, BK141, HB⟩ := hcut
      cases kq with
      | zero => exact absurd HA.out (by simp [style_Kind.j1])
      | succ kj10 =>
       have H := HA.out
       clear HA
       simp only [style_Kind.j1] at H
       by_cases c13 : x18_10 = true
       ·subst c13
        have H1 : (some 1) = some r := by rw [if_pos rfl] at H; exact H
        clear H
        have H := H1
        clear H1
        obtain rfl := Option.some.inj H
        go_wp2
        go_ret
        exact ⟨by first | rfl | (simp [errW_none, errW_some] <;> rfl) | (simp [*, errW_none, errW_some] <;> rfl), bl HB.out⟩
       ·replace c13 := Bool.eq_false_iff.mpr c13
        subst c13
        have H1 : (if 65 ≤ a1 then (style_Kind.j2 kj10 a1 (decide (a1 ≤ 90)) t134 t135 t136 t137 t138 t139) else (style_Kind.j2 kj10 a1 false t134 t135 t136 t137 t138 t139)) = some r := by rw [if_neg (show ¬ (false = true) by decide)] at H; exact H
        clear H
        have H := H1
        clear H1
        have HC14 := Aside0.mk H
        clear H
        go_upto_region 5 with (fail)
        go_cut [25] (fun v25 wc => ∃ (kq : Nat) (x25_13 : Bool), v25 = .bool x25_13 ∧ Aside0 (style_Kind.j2 kq a1 x25_13 t134 t135 t136 t137 t138 t139 = some r) ∧ Aside0 (kq ≤ kj10) ∧ Aside0 (wc.heap[gb141]? = some (.cells #[.bool t134, .int .u8 t135, .int .u8 t136, .int .u8 t137, .int .u8 t138, .int .u8 t139] 38 (0, 0))) ∧ Aside0 (Below w.heap.size w wc))
        case first =>
         have H := HC14.out
         clear HC14
         by_cases c15 : 65 ≤ a1
         ·rw [if_pos c15] at H
          have c15b0 : decide (65 ≤ a1) = true := decide_eq_true c15
          clear c15
          (first | rw [c15b0] | (simp only [i64_w, i32_w]; rw [c15b0]) | skip)
          have H' := Aside0.mk H
          clear H
          go_wp2
          go_meet
          case rel => exact ⟨_, (decide (a1 ≤ 90)), (by first | rfl | (simp; done) | (simp [*]; done)), H', ⟨by have := HJ3.out; have := HJ10.out; first | omega | exact Nat.le_refl _⟩, ⟨kp BK141.out⟩, ⟨bl HB.out⟩⟩
         ·rw [if_neg c15] at H
          have c15b0 : decide (65 ≤ a1) = false := decide_eq_false c15
          clear c15
          (first | rw [c15b0] | (simp only [i64_w, i32_w]; rw [c15b0]) | skip)
          have H' := Aside0.mk H
          clear H
          go_wp2
          go_meet
          case rel => exact ⟨_, (false), (by first | rfl | (simp; done) | (simp [*]; done)), H', ⟨by have := HJ3.out; have := HJ10.out; first | omega | exact Nat.le_refl _⟩, ⟨kp BK141.out⟩, ⟨bl HB.out⟩⟩
        case rest =>
         clear HC14
         try clear c1
         try clear c2
         try clear p2
         try clear c3
         try clear c8
         try clear c9
         try clear c12
         try clear c12b0
         try clear c13
         try clear c15
         try clear c15b0
         try clear hcz7_0 hcz7_1 hcz7_2 hcz7_3 hcz7_4 hcz7_5
         try clear hfz7_0 hfz7_1 hfz7_2 hfz7_3 hfz7_4 hfz7_5
         try clear p2
         obtain ⟨kq, x25_13, rfl, HA, HJ13, BK141, HB⟩ := hcut
         cases kq with
         | zero => exact absurd HA.out (by simp [style_Kind.j2])
         | succ kj13 =>
          have H := HA.out
          clear HA
          simp only [style_Kind.j2] at H
          have HC16 := Aside0.mk H
          clear H
          go_upto_if 25 with (fail)
          go_cut [25] (fun v25 wc => ∃ (kq : Nat) (x25_15 : Bool), v25 = .bool x25_15 ∧ Aside0 (style_Kind.j3 kq a1 x25_15 t134 t135 t136 t137 t138 t139 = some r) ∧ Aside0 (kq ≤ kj13) ∧ Aside0 (wc.heap[gb141]? = some (.cells #[.bool t134, .int .u8 t135, .int .u8 t136, .int .u8 t137, .int .u8 t138, .int .u8 t139] 38 (0, 0))) ∧ Aside0 (Below w.heap.size w wc))
          case first =>
           have H := HC16.out
           clear HC16
           by_cases c17 : x25_13 = true
           ·subst c17
            have H1 : (style_Kind.j3 kj13 a1 true t134 t135 t136 t137 t138 t139) = some r := by rw [if_pos rfl] at H; exact H
            clear H
            have H := H1
            clear H1
            have H' := Aside0.mk H
            clear H
            go_wp2
            go_meet
            case rel => exact ⟨_, (true), (by first | rfl | (simp; done) | (simp [*]; done)), H', ⟨by have := HJ3.out; have := HJ10.out; have := HJ13.out; first | omega | exact Nat.le_refl _⟩, ⟨kp BK141.out⟩, ⟨bl HB.out⟩⟩
           ·replace c17 := Bool.eq_false_iff.mpr c17
            subst c17
            have H1 : ((strings_IndexByte.f (⟨#[37, 39, 95, 91, 93]⟩ : ByteArray) a1).bind fun t142 => (style_Kind.j3 kj13 a1 (decide (t142 ≥ 0)) t134 t135 t136 t137 t138 t139)) = some r := by rw [if_neg (show ¬ (false = true) by decide)] at H; exact H
            clear H
            have H := H1
            clear H1
            replace H := Option.bind_eq_some_iff.mp H
            obtain ⟨t142, A180, H⟩ := H
            replace H : (style_Kind.j3 kj13 a1 (decide (t142 ≥ 0)) t134 t135 t136 t137 t138 t139) = some r := H
            have A18 := Aside0.mk A180
            clear A180
            have H' := Aside0.mk H
            clear H
            go_wp2_with (first | (go_at_call 35; (with_reducible refine (strings_IndexByte.calls (⟨#[37, 39, 95, 91, 93]⟩ : ByteArray) a1 t142 _ A18.out).mono ?_); rintro e w' ⟨rfl, ⟨nd, rfl⟩⟩))
            go_meet
            case rel => exact ⟨_, (decide (t142 ≥ 0)), (by first | rfl | (simp; done) | (simp [*]; done)), H', ⟨by have := HJ3.out; have := HJ10.out; have := HJ13.out; first | omega | exact Nat.le_refl _⟩, ⟨kp BK141.out⟩, ⟨bl HB.out⟩⟩
          case rest =>
           clear HC16
           try clear c1
           try clear c2
           try clear p2
           try clear c3
           try clear c8
           try clear c9
           try clear c12
           try clear c12b0
           try clear c13
           try clear c15
           try clear c15b0
           try clear c17
           try clear hcz7_0 hcz7_1 hcz7_2 hcz7_3 hcz7_4 hcz7_5
           try clear hfz7_0 hfz7_1 hfz7_2 hfz7_3 hfz7_4 hfz7_5
           try clear p2
           obtain ⟨kq, x25_15, rfl, HA, HJ15, BK141, HB⟩ := hcut
           cases kq with
           | zero => exact absurd HA.out (by simp [style_Kind.j3])
           | succ kj15 =>
            have H := HA.out
            clear HA
            simp only [style_Kind.j3] at H
            by_cases c19 : x25_15 = true
            ·subst c19
             have H1 : (some 1) = some r := by rw [if_pos rfl] at H; exact H
             clear H
             have H := H1
             clear H1
             obtain rfl := Option.some.inj H
             go_wp2
             go_ret
             exact ⟨by first | rfl | (simp [errW_none, errW_some] <;> rfl) | (simp [*, errW_none, errW_some] <;> rfl), bl HB.out⟩
            ·replace c19 := Bool.eq_false_iff.mpr c19
             subst c19
             have H1 : (if 48 ≤ a1 then (if a1 ≤ 57 then (some 2) else (style_Kind.j4 kj15 a1 t134 t135 t136 t137 t138 t139)) else (style_Kind.j4 kj15 a1 t134 t135 t136 t137 t138 t139)) = some r := by rw [if_neg (show ¬ (false = true) by decide)] at H; exact H
             clear H
             have H := H1
             clear H1
             by_cases c20 : 48 ≤ a1
             ·rw [if_pos c20] at H
              have c20b0 : decide (48 ≤ a1) = true := decide_eq_true c20
              clear c20
              by_cases c21 : a1 ≤ 57
              ·rw [if_pos c21] at H
               have c21b0 : decide (a1 ≤ 57) = true := decide_eq_true c21
               clear c21
               obtain rfl := Option.some.inj H
               go_wp2
               go_ret
               exact ⟨by first | rfl | (simp [errW_none, errW_some] <;> rfl) | (simp [*, errW_none, errW_some] <;> rfl), bl HB.out⟩
              ·rw [if_neg c21] at H
               have c21b0 : decide (a1 ≤ 57) = false := decide_eq_false c21
               clear c21
               have H' := Aside0.mk H
               clear H
               go_wp2
               go_meet
               case rel => exact ⟨_, H', ⟨by have := HJ3.out; have := HJ10.out; have := HJ13.out; have := HJ15.out; first | omega | exact Nat.le_refl _⟩, ⟨kp BK141.out⟩, ⟨bl HB.out⟩⟩
             ·rw [if_neg c20] at H
              have c20b0 : decide (48 ≤ a1) = false := decide_eq_false c20
              clear c20
              have H' := Aside0.mk H
              clear H
              go_wp2
              go_meet
              case rel => exact ⟨_, H', ⟨by have := HJ3.out; have := HJ10.out; have := HJ13.out; have := HJ15.out; first | omega | exact Nat.le_refl _⟩, ⟨kp BK141.out⟩, ⟨bl HB.out⟩⟩
    case rest =>
     clear HC10
     try clear c1
     try clear c2
     try clear p2
     try clear c3
     try clear c8
     try clear c9
     try clear c12
     try clear c12b0
     try clear c13
     try clear c15
     try clear c15b0
     try clear c17
     try clear c19
     try clear c20
     try clear c20b0
     try clear c21
     try clear c21b0
     try clear hcz7_0 hcz7_1 hcz7_2 hcz7_3 hcz7_4 hcz7_5
     try clear hfz7_0 hfz7_1 hfz7_2 hfz7_3 hfz7_4 hfz7_5
     try clear p2
     obtain ⟨kq, HA, HJ9, BK141, HB⟩ := hcut
     cases kq with
     | zero => exact absurd HA.out (by simp [style_Kind.j4])
     | succ kj9 =>
      have H := HA.out
      clear HA
      simp only [style_Kind.j4] at H
      have HC22 := Aside0.mk H
      clear H
      go_upto_if 43 with (fail)
      go_cut [43] (fun v43 wc => ∃ (kq : Nat) (x43_21 : Bool), v43 = .bool x43_21 ∧ Aside0 (style_Kind.j5 kq a1 x43_21 t134 t135 t136 t137 t138 t139 = some r) ∧ Aside0 (kq ≤ kj9) ∧ Aside0 (wc.heap[gb141]? = some (.cells #[.bool t134, .int .u8 t135, .int .u8 t136, .int .u8 t137, .int .u8 t138, .int .u8 t139] 38 (0, 0))) ∧ Aside0 (Below w.heap.size w wc))
      case first =>
       have H := HC22.out
       clear HC22
       by_cases c23 : a1 = 43
       ·rw [if_pos c23] at H
        have c23b0 : (a1 == 43) = true := beq_iff_eq.mpr c23
        have c23b1 : (a1 != 43) = false := bne_eq_false_iff_eq.mpr c23
        clear c23
        (first | rw [c23b0] | (simp only [i64_w, i32_w]; rw [c23b0]) | skip)
        have H' := Aside0.mk H
        clear H
        go_wp2
        go_meet
        case rel => exact ⟨_, ((a1 == 43)), (by first | rfl | (simp; done) | (simp [*]; done)), H', ⟨by have := HJ3.out; have := HJ9.out; first | omega | exact Nat.le_refl _⟩, ⟨kp BK141.out⟩, ⟨bl HB.out⟩⟩
       ·rw [if_neg c23] at H
        have c23b0 : (a1 == 43) = false := beq_eq_false_iff_ne.mpr c23
        have c23b1 : (a1 != 43) = true := bne_iff_ne.mpr c23
        (first | rw [c23b0] | (simp only [i64_w, i32_w]; rw [c23b0]) | skip)
        have H' := Aside0.mk H
        clear H
        go_wp2
        go_meet
        case rel => exact ⟨_, ((a1 == 45)), (by first | rfl | (simp; done) | (simp [*]; done)), H', ⟨by have := HJ3.out; have := HJ9.out; first | omega | exact Nat.le_refl _⟩, ⟨kp BK141.out⟩, ⟨bl HB.out⟩⟩
      case rest =>
       clear HC22
       try clear c1
       try clear c2
       try clear p2
       try clear c3
       try clear c8
       try clear c9
       try clear c12
       try clear c12b0
       try clear c13
       try clear c15
       try clear c15b0
       try clear c17
       try clear c19
       try clear c20
       try clear c20b0
       try clear c21
       try clear c21b0
       try clear c23
       try clear c23b0
       try clear c23b1
       try clear hcz7_0 hcz7_1 hcz7_2 hcz7_3 hcz7_4 hcz7_5
       try clear hfz7_0 hfz7_1 hfz7_2 hfz7_3 hfz7_4 hfz7_5
       try clear p2
       obtain ⟨kq, x43_21, rfl, HA, HJ21, BK141, HB⟩ := hcut
       cases kq with
       | zero => exact absurd HA.out (by simp [style_Kind.j5])
       | succ kj21 =>
        have H := HA.out
        clear HA
        simp only [style_Kind.j5] at H
        by_cases c24 : x43_21 = true
        ·subst c24
         have H1 : (some 3) = some r := by rw [if_pos rfl] at H; exact H
         clear H
         have H := H1
         clear H1
         obtain rfl := Option.some.inj H
         go_wp2
         go_ret
         exact ⟨by first | rfl | (simp [errW_none, errW_some] <;> rfl) | (simp [*, errW_none, errW_some] <;> rfl), bl HB.out⟩
        ·replace c24 := Bool.eq_false_iff.mpr c24
         subst c24
         have H1 : (if a1 = 40 then (some 7) else (if a1 = 41 then (some 8) else (if a1 = t135 then (some 4) else (if a1 = t136 then (some 5) else (if a1 = t137 then (some 6) else (if a1 = t138 then (some 9) else (if a1 = t139 then (some 10) else (some 0)))))))) = some r := by rw [if_neg (show ¬ (false = true) by decide)] at H; exact H
         clear H
         have H := H1
         clear H1
         by_cases c25 : a1 = 40
         ·rw [if_pos c25] at H
          have c25b0 : (a1 == 40) = true := beq_iff_eq.mpr c25
          have c25b1 : (a1 != 40) = false := bne_eq_false_iff_eq.mpr c25
          clear c25
          obtain rfl := Option.some.inj H
          go_wp2
          go_ret
          exact ⟨by first | rfl | (simp [errW_none, errW_some] <;> rfl) | (simp [*, errW_none, errW_some] <;> rfl), bl HB.out⟩
         ·rw [if_neg c25] at H
          have c25b0 : (a1 == 40) = false := beq_eq_false_iff_ne.mpr c25
          have c25b1 : (a1 != 40) = true := bne_iff_ne.mpr c25
          by_cases c26 : a1 = 41
          ·rw [if_pos c26] at H
           have c26b0 : (a1 == 41) = true := beq_iff_eq.mpr c26
           have c26b1 : (a1 != 41) = false := bne_eq_false_iff_eq.mpr c26
           clear c26
           obtain rfl := Option.some.inj H
           go_wp2
           go_ret
           exact ⟨by first | rfl | (simp [errW_none, errW_some] <;> rfl) | (simp [*, errW_none, errW_some] <;> rfl), bl HB.out⟩
          ·rw [if_neg c26] at H
           have c26b0 : (a1 == 41) = false := beq_eq_false_iff_ne.mpr c26
           have c26b1 : (a1 != 41) = true := bne_iff_ne.mpr c26
           by_cases c27 : a1 = t135
           ·rw [if_pos c27] at H
            have c27b0 : (a1 == t135) = true := beq_iff_eq.mpr c27
            have c27b1 : (a1 != t135) = false := bne_eq_false_iff_eq.mpr c27
            clear c27
            obtain rfl := Option.some.inj H
            have hcz28_0 : wc.cell? ⟨gb141, 0, none⟩ = some (.bool t134) := (blk_cell BK141.out 0).trans rfl
            have hcz28_1 : wc.cell? ⟨gb141, 1, none⟩ = some (.int .u8 t135) := (blk_cell BK141.out 1).trans rfl
            have hcz28_2 : wc.cell? ⟨gb141, 2, none⟩ = some (.int .u8 t136) := (blk_cell BK141.out 2).trans rfl
            have hcz28_3 : wc.cell? ⟨gb141, 3, none⟩ = some (.int .u8 t137) := (blk_cell BK141.out 3).trans rfl
            have hcz28_4 : wc.cell? ⟨gb141, 4, none⟩ = some (.int .u8 t138) := (blk_cell BK141.out 4).trans rfl
            have hcz28_5 : wc.cell? ⟨gb141, 5, none⟩ = some (.int .u8 t139) := (blk_cell BK141.out 5).trans rfl
            have hfz28_0 := blk_frozen BK141.out 0
            have hfz28_1 := blk_frozen BK141.out 1
            have hfz28_2 := blk_frozen BK141.out 2
            have hfz28_3 := blk_frozen BK141.out 3
            have hfz28_4 := blk_frozen BK141.out 4
            have hfz28_5 := blk_frozen BK141.out 5
            go_wp2
            go_ret
            exact ⟨by first | rfl | (simp [errW_none, errW_some] <;> rfl) | (simp [*, errW_none, errW_some] <;> rfl), bl HB.out⟩
           ·rw [if_neg c27] at H
            have c27b0 : (a1 == t135) = false := beq_eq_false_iff_ne.mpr c27
            have c27b1 : (a1 != t135) = true := bne_iff_ne.mpr c27
            by_cases c29 : a1 = t136
            ·rw [if_pos c29] at H
             have c29b0 : (a1 == t136) = true := beq_iff_eq.mpr c29
             have c29b1 : (a1 != t136) = false := bne_eq_false_iff_eq.mpr c29
             clear c29
             obtain rfl := Option.some.inj H
             have hcz30_0 : wc.cell? ⟨gb141, 0, none⟩ = some (.bool t134) := (blk_cell BK141.out 0).trans rfl
             have hcz30_1 : wc.cell? ⟨gb141, 1, none⟩ = some (.int .u8 t135) := (blk_cell BK141.out 1).trans rfl
             have hcz30_2 : wc.cell? ⟨gb141, 2, none⟩ = some (.int .u8 t136) := (blk_cell BK141.out 2).trans rfl
             have hcz30_3 : wc.cell? ⟨gb141, 3, none⟩ = some (.int .u8 t137) := (blk_cell BK141.out 3).trans rfl
             have hcz30_4 : wc.cell? ⟨gb141, 4, none⟩ = some (.int .u8 t138) := (blk_cell BK141.out 4).trans rfl
             have hcz30_5 : wc.cell? ⟨gb141, 5, none⟩ = some (.int .u8 t139) := (blk_cell BK141.out 5).trans rfl
             have hfz30_0 := blk_frozen BK141.out 0
             have hfz30_1 := blk_frozen BK141.out 1
             have hfz30_2 := blk_frozen BK141.out 2
             have hfz30_3 := blk_frozen BK141.out 3
             have hfz30_4 := blk_frozen BK141.out 4
             have hfz30_5 := blk_frozen BK141.out 5
             go_wp2
             go_ret
             exact ⟨by first | rfl | (simp [errW_none, errW_some] <;> rfl) | (simp [*, errW_none, errW_some] <;> rfl), bl HB.out⟩
            ·rw [if_neg c29] at H
             have c29b0 : (a1 == t136) = false := beq_eq_false_iff_ne.mpr c29
             have c29b1 : (a1 != t136) = true := bne_iff_ne.mpr c29
             by_cases c31 : a1 = t137
             ·rw [if_pos c31] at H
              have c31b0 : (a1 == t137) = true := beq_iff_eq.mpr c31
              have c31b1 : (a1 != t137) = false := bne_eq_false_iff_eq.mpr c31
              clear c31
              obtain rfl := Option.some.inj H
              have hcz32_0 : wc.cell? ⟨gb141, 0, none⟩ = some (.bool t134) := (blk_cell BK141.out 0).trans rfl
              have hcz32_1 : wc.cell? ⟨gb141, 1, none⟩ = some (.int .u8 t135) := (blk_cell BK141.out 1).trans rfl
              have hcz32_2 : wc.cell? ⟨gb141, 2, none⟩ = some (.int .u8 t136) := (blk_cell BK141.out 2).trans rfl
              have hcz32_3 : wc.cell? ⟨gb141, 3, none⟩ = some (.int .u8 t137) := (blk_cell BK141.out 3).trans rfl
              have hcz32_4 : wc.cell? ⟨gb141, 4, none⟩ = some (.int .u8 t138) := (blk_cell BK141.out 4).trans rfl
              have hcz32_5 : wc.cell? ⟨gb141, 5, none⟩ = some (.int .u8 t139) := (blk_cell BK141.out 5).trans rfl
              have hfz32_0 := blk_frozen BK141.out 0
              have hfz32_1 := blk_frozen BK141.out 1
              have hfz32_2 := blk_frozen BK141.out 2
              have hfz32_3 := blk_frozen BK141.out 3
              have hfz32_4 := blk_frozen BK141.out 4
              have hfz32_5 := blk_frozen BK141.out 5
              go_wp2
              go_ret
              exact ⟨by first | rfl | (simp [errW_none, errW_some] <;> rfl) | (simp [*, errW_none, errW_some] <;> rfl), bl HB.out⟩
             ·rw [if_neg c31] at H
              have c31b0 : (a1 == t137) = false := beq_eq_false_iff_ne.mpr c31
              have c31b1 : (a1 != t137) = true := bne_iff_ne.mpr c31
              by_cases c33 : a1 = t138
              ·rw [if_pos c33] at H
               have c33b0 : (a1 == t138) = true := beq_iff_eq.mpr c33
               have c33b1 : (a1 != t138) = false := bne_eq_false_iff_eq.mpr c33
               clear c33
               obtain rfl := Option.some.inj H
               have hcz34_0 : wc.cell? ⟨gb141, 0, none⟩ = some (.bool t134) := (blk_cell BK141.out 0).trans rfl
               have hcz34_1 : wc.cell? ⟨gb141, 1, none⟩ = some (.int .u8 t135) := (blk_cell BK141.out 1).trans rfl
               have hcz34_2 : wc.cell? ⟨gb141, 2, none⟩ = some (.int .u8 t136) := (blk_cell BK141.out 2).trans rfl
               have hcz34_3 : wc.cell? ⟨gb141, 3, none⟩ = some (.int .u8 t137) := (blk_cell BK141.out 3).trans rfl
               have hcz34_4 : wc.cell? ⟨gb141, 4, none⟩ = some (.int .u8 t138) := (blk_cell BK141.out 4).trans rfl
               have hcz34_5 : wc.cell? ⟨gb141, 5, none⟩ = some (.int .u8 t139) := (blk_cell BK141.out 5).trans rfl
               have hfz34_0 := blk_frozen BK141.out 0
               have hfz34_1 := blk_frozen BK141.out 1
               have hfz34_2 := blk_frozen BK141.out 2
               have hfz34_3 := blk_frozen BK141.out 3
               have hfz34_4 := blk_frozen BK141.out 4
               have hfz34_5 := blk_frozen BK141.out 5
               go_wp2
               go_ret
               exact ⟨by first | rfl | (simp [errW_none, errW_some] <;> rfl) | (simp [*, errW_none, errW_some] <;> rfl), bl HB.out⟩
              ·rw [if_neg c33] at H
               have c33b0 : (a1 == t138) = false := beq_eq_false_iff_ne.mpr c33
               have c33b1 : (a1 != t138) = true := bne_iff_ne.mpr c33
               by_cases c35 : a1 = t139
               ·rw [if_pos c35] at H
                have c35b0 : (a1 == t139) = true := beq_iff_eq.mpr c35
                have c35b1 : (a1 != t139) = false := bne_eq_false_iff_eq.mpr c35
                clear c35
                obtain rfl := Option.some.inj H
                have hcz36_0 : wc.cell? ⟨gb141, 0, none⟩ = some (.bool t134) := (blk_cell BK141.out 0).trans rfl
                have hcz36_1 : wc.cell? ⟨gb141, 1, none⟩ = some (.int .u8 t135) := (blk_cell BK141.out 1).trans rfl
                have hcz36_2 : wc.cell? ⟨gb141, 2, none⟩ = some (.int .u8 t136) := (blk_cell BK141.out 2).trans rfl
                have hcz36_3 : wc.cell? ⟨gb141, 3, none⟩ = some (.int .u8 t137) := (blk_cell BK141.out 3).trans rfl
                have hcz36_4 : wc.cell? ⟨gb141, 4, none⟩ = some (.int .u8 t138) := (blk_cell BK141.out 4).trans rfl
                have hcz36_5 : wc.cell? ⟨gb141, 5, none⟩ = some (.int .u8 t139) := (blk_cell BK141.out 5).trans rfl
                have hfz36_0 := blk_frozen BK141.out 0
                have hfz36_1 := blk_frozen BK141.out 1
                have hfz36_2 := blk_frozen BK141.out 2
                have hfz36_3 := blk_frozen BK141.out 3
                have hfz36_4 := blk_frozen BK141.out 4
                have hfz36_5 := blk_frozen BK141.out 5
                go_wp2
                go_ret
                exact ⟨by first | rfl | (simp [errW_none, errW_some] <;> rfl) | (simp [*, errW_none, errW_some] <;> rfl), bl HB.out⟩
               ·rw [if_neg c35] at H
                have c35b0 : (a1 == t139) = false := beq_eq_false_iff_ne.mpr c35
                have c35b1 : (a1 != t139) = true := bne_iff_ne.mpr c35
                obtain rfl := Option.some.inj H
                have hcz37_0 : wc.cell? ⟨gb141, 0, none⟩ = some (.bool t134) := (blk_cell BK141.out 0).trans rfl
                have hcz37_1 : wc.cell? ⟨gb141, 1, none⟩ = some (.int .u8 t135) := (blk_cell BK141.out 1).trans rfl
                have hcz37_2 : wc.cell? ⟨gb141, 2, none⟩ = some (.int .u8 t136) := (blk_cell BK141.out 2).trans rfl
                have hcz37_3 : wc.cell? ⟨gb141, 3, none⟩ = some (.int .u8 t137) := (blk_cell BK141.out 3).trans rfl
                have hcz37_4 : wc.cell? ⟨gb141, 4, none⟩ = some (.int .u8 t138) := (blk_cell BK141.out 4).trans rfl
                have hcz37_5 : wc.cell? ⟨gb141, 5, none⟩ = some (.int .u8 t139) := (blk_cell BK141.out 5).trans rfl
                have hfz37_0 := blk_frozen BK141.out 0
                have hfz37_1 := blk_frozen BK141.out 1
                have hfz37_2 := blk_frozen BK141.out 2
                have hfz37_3 := blk_frozen BK141.out 3
                have hfz37_4 := blk_frozen BK141.out 4
                have hfz37_5 := blk_frozen BK141.out 5
                go_wp2
                go_ret
                exact ⟨by first | rfl | (simp [errW_none, errW_some] <;> rfl) | (simp [*, errW_none, errW_some] <;> rfl), bl HB.out⟩

end Go.Proofs.YtimkhjbnkcgekaaDoor.PB
