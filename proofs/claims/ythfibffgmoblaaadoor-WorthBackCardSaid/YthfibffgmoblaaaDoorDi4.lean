/- dims.each: seven powers, made one by one, if they are right. Its conditions: what the function that is handed in tells in each world that keeps old memory. -/
import Derived.Test.YthfibffgmoblaaaDoorDi2
import Derived.Test.YthfibffgmoblaaaDoorSq
namespace Go.Proofs.YthfibffgmoblaaaDoor
open Go Go.RowKit Go.Proofs.YthfibffgmoblaaaDoor.Di Go.Proofs.YthfibffgmoblaaaDoor.Sq Go.Proofs.YthfibffgmoblaaaDoorW.PrintWords Go.Proofs.YthfibffgmoblaaaDoorW.PrintLast Go.Proofs.YthfibffgmoblaaaDoorW.PrintMore
attribute [local go_sem] max2_int min2_int max_two min_two max_three min_three max_four min_four   -- for this text's walks alone
set_option linter.unusedVariables false
set_option linter.unusedSimpArgs false
abbrev D8 := Int × Int × Int × Int × Int × Int × Int × Bool
def eachP (is : Bool) (v0 v1 v2 v3 v4 v5 v6 : Int) : D8 := if is = true ∧ allR [v0, v1, v2, v3, v4, v5, v6] = true then (v0, v1, v2, v3, v4, v5, v6, true) else (0, 0, 0, 0, 0, 0, 0, false)
set_option maxHeartbeats 8000000 in
set_option maxRecDepth 100000 in
theorem each28_calls (is : Bool) (p q : Value) (v0 v1 v2 v3 v4 v5 v6 : Int) (w : World) (hcl : ∀ W, Below w.heap.size w W → Calls Tryd.prog 68 #[.int .i64 0, p, q] W (fun e W' => e = .returned (.int .i64 v0) ∧ Below W.heap.size W W') ∧ Calls Tryd.prog 68 #[.int .i64 1, p, q] W (fun e W' => e = .returned (.int .i64 v1) ∧ Below W.heap.size W W') ∧ Calls Tryd.prog 68 #[.int .i64 2, p, q] W (fun e W' => e = .returned (.int .i64 v2) ∧ Below W.heap.size W W') ∧ Calls Tryd.prog 68 #[.int .i64 3, p, q] W (fun e W' => e = .returned (.int .i64 v3) ∧ Below W.heap.size W W') ∧ Calls Tryd.prog 68 #[.int .i64 4, p, q] W (fun e W' => e = .returned (.int .i64 v4) ∧ Below W.heap.size W W') ∧ Calls Tryd.prog 68 #[.int .i64 5, p, q] W (fun e W' => e = .returned (.int .i64 v5) ∧ Below W.heap.size W W') ∧ Calls Tryd.prog 68 #[.int .i64 6, p, q] W (fun e W' => e = .returned (.int .i64 v6) ∧ Below W.heap.size W W')) (r0 r1 r2 r3 r4 r5 r6 : Int) (ok : Bool) (h : eachP is v0 v1 v2 v3 v4 v5 v6 = (r0, r1, r2, r3, r4, r5, r6, ok)) :
    Calls Tryd.prog 61 #[.bool is, .func (.func 68) #[] #[p, q]] w fun e w' => e = .returned (.tuple #[.agg #[.int .i64 r0, .int .i64 r1, .int .i64 r2, .int .i64 r3, .int .i64 r4, .int .i64 r5, .int .i64 r6], .bool ok]) ∧ Below w.heap.size w w' := by
  have hu := Tryd.underlying23
  have HC := Aside0.mk hcl
  have HR := Aside0.mk h
  clear hcl h
  go_enter Tryd.func61, Tryd.ntmps61
  cases is with
  | false =>
    have hr := HR.out
    unfold eachP at hr
    simp only [Bool.false_eq_true, false_and, if_false, Prod.mk.injEq] at hr
    obtain ⟨rfl, rfl, rfl, rfl, rfl, rfl, rfl, rfl⟩ := hr
    go_wp2_with (first | ((with_reducible refine gate_dst (N := 4) rfl ?_); refine box_event ?hg (N := 4) ?hd (cs := #[.int .i64 0, .int .i64 0, .int .i64 0, .int .i64 0, .int .i64 0, .int .i64 0, .int .i64 0]) (t := 23) ?hr ?_; (case hd => rfl); (case hg => rfl); (case hr => first | (go_simp; done) | (go_simp; rfl)); intro gr hg w1 hbox hb; have BR := Aside0.mk hbox; have HB := Aside0.mk hb; have GR := Aside0.mk (bsz (bl (Below.refl _ _)) hg : w.heap.size ≤ gr); obtain ⟨q0_, q1_, q2_, q3_, q4_, q5_, q6_⟩ := hc7 BR.out; obtain ⟨s0_, s1_, s2_, s3_, s4_, s5_, s6_⟩ := hf7 BR.out; clear hbox hb hg))
    refine bodyPost_ret (results_ct rfl _ _ gr 23 #[.int .i64 0, .int .i64 0, .int .i64 0, .int .i64 0, .int .i64 0, .int .i64 0, .int .i64 0] (0, 0) _ rfl (kp (p7_6 (kp (p7_5 (kp (p7_4 (kp (p7_3 (kp (p7_2 (kp (p7_1 (kp (p7_0 (kp BR.out))))))))))))))) hu rfl (by kernel_rfl)) rfl ?_
    exact ⟨rfl, bl HB.out⟩
  | true =>
    go_upto_region 4 with (first
      | ((with_reducible refine gate_dst (N := 4) rfl ?_); refine box_event ?hg (N := 4) ?hd (cs := #[.int .i64 0, .int .i64 0, .int .i64 0, .int .i64 0, .int .i64 0, .int .i64 0, .int .i64 0]) (t := 23) ?hr ?_; (case hd => rfl); (case hg => rfl); (case hr => first | (go_simp; done) | (go_simp; rfl)); intro gr hg w1 hbox hb; have BR := Aside0.mk hbox; have HB := Aside0.mk hb; have GR := Aside0.mk (bsz (bl (Below.refl _ _)) hg : w.heap.size ≤ gr); obtain ⟨q0_, q1_, q2_, q3_, q4_, q5_, q6_⟩ := hc7 BR.out; obtain ⟨s0_, s1_, s2_, s3_, s4_, s5_, s6_⟩ := hf7 BR.out; clear hbox hb hg)
      | ((with_reducible refine gate_dst (N := 6) rfl ?_); refine box_event ?hg (N := 6) ?hd (cs := #[.int .i64 0, .int .i64 0, .int .i64 0, .int .i64 0, .int .i64 0, .int .i64 0, .int .i64 0]) (t := 23) ?hr ?_; (case hd => rfl); (case hg => rfl); (case hr => first | (go_simp; done) | (go_simp; rfl)); intro gd hg w2 hbox hb; have GD := Aside0.mk (bsz (bl HB.out) hg : w.heap.size ≤ gd); have RD := Aside0.mk (nlt (kp BR.out) hg : gr ≠ gd); have DR := Aside0.mk (ngt (kp BR.out) hg : gd ≠ gr); replace BR := Aside0.mk (blk_below (kp BR.out) hb); have BD := Aside0.mk hbox; replace HB := Aside0.mk (below_step (bl HB.out) hb); clear q0_ q1_ q2_ q3_ q4_ q5_ q6_ s0_ s1_ s2_ s3_ s4_ s5_ s6_; clear hbox hb hg))
    go_wp2
    refine wp_loop_rounds 8 ?_
    rw [rounds_succ]
    go_wp2_with (first | (go_at_call 68; (with_reducible refine ((HC.out _ (bl HB.out)).1).mono ?_); rintro e wc0 ⟨rfl, hb⟩; replace BR := Aside0.mk (blk_below (kp BR.out) hb); replace BD := Aside0.mk (blk_below (kp BD.out) hb); replace HB := Aside0.mk (below_step (bl HB.out) hb); clear hb; obtain ⟨a0, a1, a2, a3, a4, a5, a6⟩ := hc7 BD.out; obtain ⟨f0, f1, f2, f3, f4, f5, f6⟩ := hf7 BD.out))
    clear a0 a1 a2 a3 a4 a5 a6 f0 f1 f2 f3 f4 f5 f6
    rw [rounds_succ]
    go_wp2_with (first | (go_at_call 68; (with_reducible refine ((HC.out _ (bl HB.out)).2.1).mono ?_); rintro e wc1 ⟨rfl, hb⟩; replace BR := Aside0.mk (blk_below (kp BR.out) hb); replace BD := Aside0.mk (blk_below (kp (p7_0 (kp BD.out))) hb); replace HB := Aside0.mk (below_step (bl HB.out) hb); clear hb; obtain ⟨a0, a1, a2, a3, a4, a5, a6⟩ := hc7 BD.out; obtain ⟨f0, f1, f2, f3, f4, f5, f6⟩ := hf7 BD.out))
    clear a0 a1 a2 a3 a4 a5 a6 f0 f1 f2 f3 f4 f5 f6
    rw [rounds_succ]
    go_wp2_with (first | (go_at_call 68; (with_reducible refine ((HC.out _ (bl HB.out)).2.2.1).mono ?_); rintro e wc2 ⟨rfl, hb⟩; replace BR := Aside0.mk (blk_below (kp BR.out) hb); replace BD := Aside0.mk (blk_below (kp (p7_1 (kp BD.out))) hb); replace HB := Aside0.mk (below_step (bl HB.out) hb); clear hb; obtain ⟨a0, a1, a2, a3, a4, a5, a6⟩ := hc7 BD.out; obtain ⟨f0, f1, f2, f3, f4, f5, f6⟩ := hf7 BD.out))
    clear a0 a1 a2 a3 a4 a5 a6 f0 f1 f2 f3 f4 f5 f6
    rw [rounds_succ]
    go_wp2_with (first | (go_at_call 68; (with_reducible refine ((HC.out _ (bl HB.out)).2.2.2.1).mono ?_); rintro e wc3 ⟨rfl, hb⟩; replace BR := Aside0.mk (blk_below (kp BR.out) hb); replace BD := Aside0.mk (blk_below (kp (p7_2 (kp BD.out))) hb); replace HB := Aside0.mk (below_step (bl HB.out) hb); clear hb; obtain ⟨a0, a1, a2, a3, a4, a5, a6⟩ := hc7 BD.out; obtain ⟨f0, f1, f2, f3, f4, f5, f6⟩ := hf7 BD.out))
    clear a0 a1 a2 a3 a4 a5 a6 f0 f1 f2 f3 f4 f5 f6
    rw [rounds_succ]
    go_wp2_with (first | (go_at_call 68; (with_reducible refine ((HC.out _ (bl HB.out)).2.2.2.2.1).mono ?_); rintro e wc4 ⟨rfl, hb⟩; replace BR := Aside0.mk (blk_below (kp BR.out) hb); replace BD := Aside0.mk (blk_below (kp (p7_3 (kp BD.out))) hb); replace HB := Aside0.mk (below_step (bl HB.out) hb); clear hb; obtain ⟨a0, a1, a2, a3, a4, a5, a6⟩ := hc7 BD.out; obtain ⟨f0, f1, f2, f3, f4, f5, f6⟩ := hf7 BD.out))
    clear a0 a1 a2 a3 a4 a5 a6 f0 f1 f2 f3 f4 f5 f6
    rw [rounds_succ]
    go_wp2_with (first | (go_at_call 68; (with_reducible refine ((HC.out _ (bl HB.out)).2.2.2.2.2.1).mono ?_); rintro e wc5 ⟨rfl, hb⟩; replace BR := Aside0.mk (blk_below (kp BR.out) hb); replace BD := Aside0.mk (blk_below (kp (p7_4 (kp BD.out))) hb); replace HB := Aside0.mk (below_step (bl HB.out) hb); clear hb; obtain ⟨a0, a1, a2, a3, a4, a5, a6⟩ := hc7 BD.out; obtain ⟨f0, f1, f2, f3, f4, f5, f6⟩ := hf7 BD.out))
    clear a0 a1 a2 a3 a4 a5 a6 f0 f1 f2 f3 f4 f5 f6
    rw [rounds_succ]
    go_wp2_with (first | (go_at_call 68; (with_reducible refine ((HC.out _ (bl HB.out)).2.2.2.2.2.2).mono ?_); rintro e wc6 ⟨rfl, hb⟩; replace BR := Aside0.mk (blk_below (kp BR.out) hb); replace BD := Aside0.mk (blk_below (kp (p7_5 (kp BD.out))) hb); replace HB := Aside0.mk (below_step (bl HB.out) hb); clear hb; obtain ⟨a0, a1, a2, a3, a4, a5, a6⟩ := hc7 BD.out; obtain ⟨f0, f1, f2, f3, f4, f5, f6⟩ := hf7 BD.out))
    clear a0 a1 a2 a3 a4 a5 a6 f0 f1 f2 f3 f4 f5 f6
    rw [rounds_succ]
    obtain ⟨a0, a1, a2, a3, a4, a5, a6⟩ := hc7 BD.out
    obtain ⟨f0, f1, f2, f3, f4, f5, f6⟩ := hf7 BD.out
    have hr := HR.out
    clear HR HC
    unfold eachP at hr
    obtain ⟨R, hR⟩ : ∃ R, allR [v0, v1, v2, v3, v4, v5, v6] = R := ⟨_, rfl⟩
    have HA : Aside0 (dims_Right.f v0 v1 v2 v3 v4 v5 v6 = some R) := ⟨by rw [← hR]; rfl⟩
    rw [hR] at hr
    clear hR
    cases R with
    | false =>
      simp only [Bool.false_eq_true, and_false, if_false, Prod.mk.injEq] at hr
      obtain ⟨rfl, rfl, rfl, rfl, rfl, rfl, rfl, rfl⟩ := hr
      go_wp2_with (first | (go_at_call 48; (with_reducible refine (dims_Right.calls v0 v1 v2 v3 v4 v5 v6 _ _ HA.out).mono ?_); rintro e wr ⟨rfl, hb⟩; replace BR := Aside0.mk (blk_below (kp BR.out) hb); replace BD := Aside0.mk (blk_below (kp (p7_6 (kp BD.out))) hb); replace HB := Aside0.mk (below_step (bl HB.out) hb); clear hb a0 a1 a2 a3 a4 a5 a6 f0 f1 f2 f3 f4 f5 f6; obtain ⟨a0, a1, a2, a3, a4, a5, a6⟩ := hc7 BD.out; obtain ⟨q0_, q1_, q2_, q3_, q4_, q5_, q6_⟩ := hc7 BR.out; obtain ⟨s0_, s1_, s2_, s3_, s4_, s5_, s6_⟩ := hf7 BR.out; have rd := RD.out; have dr := DR.out))
      refine bodyPost_ret (results_ct rfl _ _ gr 23 #[.int .i64 0, .int .i64 0, .int .i64 0, .int .i64 0, .int .i64 0, .int .i64 0, .int .i64 0] (0, 0) _ rfl (kp (p7_6 (kp (p7_5 (kp (p7_4 (kp (p7_3 (kp (p7_2 (kp (p7_1 (kp (p7_0 (kp BR.out))))))))))))))) hu rfl (by kernel_rfl)) rfl ?_
      exact ⟨rfl, bl HB.out⟩
    | true =>
      simp only [true_and, if_true, Prod.mk.injEq] at hr
      obtain ⟨rfl, rfl, rfl, rfl, rfl, rfl, rfl, rfl⟩ := hr
      go_wp2_with (first | (go_at_call 48; (with_reducible refine (dims_Right.calls v0 v1 v2 v3 v4 v5 v6 _ _ HA.out).mono ?_); rintro e wr ⟨rfl, hb⟩; replace BR := Aside0.mk (blk_below (kp BR.out) hb); replace BD := Aside0.mk (blk_below (kp (p7_6 (kp BD.out))) hb); replace HB := Aside0.mk (below_step (bl HB.out) hb); clear hb a0 a1 a2 a3 a4 a5 a6 f0 f1 f2 f3 f4 f5 f6; obtain ⟨a0, a1, a2, a3, a4, a5, a6⟩ := hc7 BD.out; obtain ⟨q0_, q1_, q2_, q3_, q4_, q5_, q6_⟩ := hc7 BR.out; obtain ⟨s0_, s1_, s2_, s3_, s4_, s5_, s6_⟩ := hf7 BR.out; have rd := RD.out; have dr := DR.out))
      refine bodyPost_ret (results_ct rfl _ _ gr 23 #[.int .i64 v0, .int .i64 v1, .int .i64 v2, .int .i64 v3, .int .i64 v4, .int .i64 v5, .int .i64 v6] (0, 0) _ rfl (kp (p7_6 (kp (p7_5 (kp (p7_4 (kp (p7_3 (kp (p7_2 (kp (p7_1 (kp (p7_0 (kp BR.out))))))))))))))) hu rfl (by kernel_rfl)) rfl ?_
      exact ⟨rfl, bl HB.out⟩
set_option maxHeartbeats 8000000 in
set_option maxRecDepth 100000 in
theorem each29_calls (is : Bool) (p q : Value) (v0 v1 v2 v3 v4 v5 v6 : Int) (w : World) (hcl : ∀ W, Below w.heap.size w W → Calls Tryd.prog 62 #[.int .i64 0, p, q] W (fun e W' => e = .returned (.int .i64 v0) ∧ Below W.heap.size W W') ∧ Calls Tryd.prog 62 #[.int .i64 1, p, q] W (fun e W' => e = .returned (.int .i64 v1) ∧ Below W.heap.size W W') ∧ Calls Tryd.prog 62 #[.int .i64 2, p, q] W (fun e W' => e = .returned (.int .i64 v2) ∧ Below W.heap.size W W') ∧ Calls Tryd.prog 62 #[.int .i64 3, p, q] W (fun e W' => e = .returned (.int .i64 v3) ∧ Below W.heap.size W W') ∧ Calls Tryd.prog 62 #[.int .i64 4, p, q] W (fun e W' => e = .returned (.int .i64 v4) ∧ Below W.heap.size W W') ∧ Calls Tryd.prog 62 #[.int .i64 5, p, q] W (fun e W' => e = .returned (.int .i64 v5) ∧ Below W.heap.size W W') ∧ Calls Tryd.prog 62 #[.int .i64 6, p, q] W (fun e W' => e = .returned (.int .i64 v6) ∧ Below W.heap.size W W')) (r0 r1 r2 r3 r4 r5 r6 : Int) (ok : Bool) (h : eachP is v0 v1 v2 v3 v4 v5 v6 = (r0, r1, r2, r3, r4, r5, r6, ok)) :
    Calls Tryd.prog 61 #[.bool is, .func (.func 62) #[] #[p, q]] w fun e w' => e = .returned (.tuple #[.agg #[.int .i64 r0, .int .i64 r1, .int .i64 r2, .int .i64 r3, .int .i64 r4, .int .i64 r5, .int .i64 r6], .bool ok]) ∧ Below w.heap.size w w' := by
  have hu := Tryd.underlying23
  have HC := Aside0.mk hcl
  have HR := Aside0.mk h
  clear hcl h
  go_enter Tryd.func61, Tryd.ntmps61
  cases is with
  | false =>
    have hr := HR.out
    unfold eachP at hr
    simp only [Bool.false_eq_true, false_and, if_false, Prod.mk.injEq] at hr
    obtain ⟨rfl, rfl, rfl, rfl, rfl, rfl, rfl, rfl⟩ := hr
    go_wp2_with (first | ((with_reducible refine gate_dst (N := 4) rfl ?_); refine box_event ?hg (N := 4) ?hd (cs := #[.int .i64 0, .int .i64 0, .int .i64 0, .int .i64 0, .int .i64 0, .int .i64 0, .int .i64 0]) (t := 23) ?hr ?_; (case hd => rfl); (case hg => rfl); (case hr => first | (go_simp; done) | (go_simp; rfl)); intro gr hg w1 hbox hb; have BR := Aside0.mk hbox; have HB := Aside0.mk hb; have GR := Aside0.mk (bsz (bl (Below.refl _ _)) hg : w.heap.size ≤ gr); obtain ⟨q0_, q1_, q2_, q3_, q4_, q5_, q6_⟩ := hc7 BR.out; obtain ⟨s0_, s1_, s2_, s3_, s4_, s5_, s6_⟩ := hf7 BR.out; clear hbox hb hg))
    refine bodyPost_ret (results_ct rfl _ _ gr 23 #[.int .i64 0, .int .i64 0, .int .i64 0, .int .i64 0, .int .i64 0, .int .i64 0, .int .i64 0] (0, 0) _ rfl (kp (p7_6 (kp (p7_5 (kp (p7_4 (kp (p7_3 (kp (p7_2 (kp (p7_1 (kp (p7_0 (kp BR.out))))))))))))))) hu rfl (by kernel_rfl)) rfl ?_
    exact ⟨rfl, bl HB.out⟩
  | true =>
    go_upto_region 4 with (first
      | ((with_reducible refine gate_dst (N := 4) rfl ?_); refine box_event ?hg (N := 4) ?hd (cs := #[.int .i64 0, .int .i64 0, .int .i64 0, .int .i64 0, .int .i64 0, .int .i64 0, .int .i64 0]) (t := 23) ?hr ?_; (case hd => rfl); (case hg => rfl); (case hr => first | (go_simp; done) | (go_simp; rfl)); intro gr hg w1 hbox hb; have BR := Aside0.mk hbox; have HB := Aside0.mk hb; have GR := Aside0.mk (bsz (bl (Below.refl _ _)) hg : w.heap.size ≤ gr); obtain ⟨q0_, q1_, q2_, q3_, q4_, q5_, q6_⟩ := hc7 BR.out; obtain ⟨s0_, s1_, s2_, s3_, s4_, s5_, s6_⟩ := hf7 BR.out; clear hbox hb hg)
      | ((with_reducible refine gate_dst (N := 6) rfl ?_); refine box_event ?hg (N := 6) ?hd (cs := #[.int .i64 0, .int .i64 0, .int .i64 0, .int .i64 0, .int .i64 0, .int .i64 0, .int .i64 0]) (t := 23) ?hr ?_; (case hd => rfl); (case hg => rfl); (case hr => first | (go_simp; done) | (go_simp; rfl)); intro gd hg w2 hbox hb; have GD := Aside0.mk (bsz (bl HB.out) hg : w.heap.size ≤ gd); have RD := Aside0.mk (nlt (kp BR.out) hg : gr ≠ gd); have DR := Aside0.mk (ngt (kp BR.out) hg : gd ≠ gr); replace BR := Aside0.mk (blk_below (kp BR.out) hb); have BD := Aside0.mk hbox; replace HB := Aside0.mk (below_step (bl HB.out) hb); clear q0_ q1_ q2_ q3_ q4_ q5_ q6_ s0_ s1_ s2_ s3_ s4_ s5_ s6_; clear hbox hb hg))
    go_wp2
    refine wp_loop_rounds 8 ?_
    rw [rounds_succ]
    go_wp2_with (first | (go_at_call 62; (with_reducible refine ((HC.out _ (bl HB.out)).1).mono ?_); rintro e wc0 ⟨rfl, hb⟩; replace BR := Aside0.mk (blk_below (kp BR.out) hb); replace BD := Aside0.mk (blk_below (kp BD.out) hb); replace HB := Aside0.mk (below_step (bl HB.out) hb); clear hb; obtain ⟨a0, a1, a2, a3, a4, a5, a6⟩ := hc7 BD.out; obtain ⟨f0, f1, f2, f3, f4, f5, f6⟩ := hf7 BD.out))
    clear a0 a1 a2 a3 a4 a5 a6 f0 f1 f2 f3 f4 f5 f6
    rw [rounds_succ]
    go_wp2_with (first | (go_at_call 62; (with_reducible refine ((HC.out _ (bl HB.out)).2.1).mono ?_); rintro e wc1 ⟨rfl, hb⟩; replace BR := Aside0.mk (blk_below (kp BR.out) hb); replace BD := Aside0.mk (blk_below (kp (p7_0 (kp BD.out))) hb); replace HB := Aside0.mk (below_step (bl HB.out) hb); clear hb; obtain ⟨a0, a1, a2, a3, a4, a5, a6⟩ := hc7 BD.out; obtain ⟨f0, f1, f2, f3, f4, f5, f6⟩ := hf7 BD.out))
    clear a0 a1 a2 a3 a4 a5 a6 f0 f1 f2 f3 f4 f5 f6
    rw [rounds_succ]
    go_wp2_with (first | (go_at_call 62; (with_reducible refine ((HC.out _ (bl HB.out)).2.2.1).mono ?_); rintro e wc2 ⟨rfl, hb⟩; replace BR := Aside0.mk (blk_below (kp BR.out) hb); replace BD := Aside0.mk (blk_below (kp (p7_1 (kp BD.out))) hb); replace HB := Aside0.mk (below_step (bl HB.out) hb); clear hb; obtain ⟨a0, a1, a2, a3, a4, a5, a6⟩ := hc7 BD.out; obtain ⟨f0, f1, f2, f3, f4, f5, f6⟩ := hf7 BD.out))
    clear a0 a1 a2 a3 a4 a5 a6 f0 f1 f2 f3 f4 f5 f6
    rw [rounds_succ]
    go_wp2_with (first | (go_at_call 62; (with_reducible refine ((HC.out _ (bl HB.out)).2.2.2.1).mono ?_); rintro e wc3 ⟨rfl, hb⟩; replace BR := Aside0.mk (blk_below (kp BR.out) hb); replace BD := Aside0.mk (blk_below (kp (p7_2 (kp BD.out))) hb); replace HB := Aside0.mk (below_step (bl HB.out) hb); clear hb; obtain ⟨a0, a1, a2, a3, a4, a5, a6⟩ := hc7 BD.out; obtain ⟨f0, f1, f2, f3, f4, f5, f6⟩ := hf7 BD.out))
    clear a0 a1 a2 a3 a4 a5 a6 f0 f1 f2 f3 f4 f5 f6
    rw [rounds_succ]
    go_wp2_with (first | (go_at_call 62; (with_reducible refine ((HC.out _ (bl HB.out)).2.2.2.2.1).mono ?_); rintro e wc4 ⟨rfl, hb⟩; replace BR := Aside0.mk (blk_below (kp BR.out) hb); replace BD := Aside0.mk (blk_below (kp (p7_3 (kp BD.out))) hb); replace HB := Aside0.mk (below_step (bl HB.out) hb); clear hb; obtain ⟨a0, a1, a2, a3, a4, a5, a6⟩ := hc7 BD.out; obtain ⟨f0, f1, f2, f3, f4, f5, f6⟩ := hf7 BD.out))
    clear a0 a1 a2 a3 a4 a5 a6 f0 f1 f2 f3 f4 f5 f6
    rw [rounds_succ]
    go_wp2_with (first | (go_at_call 62; (with_reducible refine ((HC.out _ (bl HB.out)).2.2.2.2.2.1).mono ?_); rintro e wc5 ⟨rfl, hb⟩; replace BR := Aside0.mk (blk_below (kp BR.out) hb); replace BD := Aside0.mk (blk_below (kp (p7_4 (kp BD.out))) hb); replace HB := Aside0.mk (below_step (bl HB.out) hb); clear hb; obtain ⟨a0, a1, a2, a3, a4, a5, a6⟩ := hc7 BD.out; obtain ⟨f0, f1, f2, f3, f4, f5, f6⟩ := hf7 BD.out))
    clear a0 a1 a2 a3 a4 a5 a6 f0 f1 f2 f3 f4 f5 f6
    rw [rounds_succ]
    go_wp2_with (first | (go_at_call 62; (with_reducible refine ((HC.out _ (bl HB.out)).2.2.2.2.2.2).mono ?_); rintro e wc6 ⟨rfl, hb⟩; replace BR := Aside0.mk (blk_below (kp BR.out) hb); replace BD := Aside0.mk (blk_below (kp (p7_5 (kp BD.out))) hb); replace HB := Aside0.mk (below_step (bl HB.out) hb); clear hb; obtain ⟨a0, a1, a2, a3, a4, a5, a6⟩ := hc7 BD.out; obtain ⟨f0, f1, f2, f3, f4, f5, f6⟩ := hf7 BD.out))
    clear a0 a1 a2 a3 a4 a5 a6 f0 f1 f2 f3 f4 f5 f6
    rw [rounds_succ]
    obtain ⟨a0, a1, a2, a3, a4, a5, a6⟩ := hc7 BD.out
    obtain ⟨f0, f1, f2, f3, f4, f5, f6⟩ := hf7 BD.out
    have hr := HR.out
    clear HR HC
    unfold eachP at hr
    obtain ⟨R, hR⟩ : ∃ R, allR [v0, v1, v2, v3, v4, v5, v6] = R := ⟨_, rfl⟩
    have HA : Aside0 (dims_Right.f v0 v1 v2 v3 v4 v5 v6 = some R) := ⟨by rw [← hR]; rfl⟩
    rw [hR] at hr
    clear hR
    cases R with
    | false =>
      simp only [Bool.false_eq_true, and_false, if_false, Prod.mk.injEq] at hr
      obtain ⟨rfl, rfl, rfl, rfl, rfl, rfl, rfl, rfl⟩ := hr
      go_wp2_with (first | (go_at_call 48; (with_reducible refine (dims_Right.calls v0 v1 v2 v3 v4 v5 v6 _ _ HA.out).mono ?_); rintro e wr ⟨rfl, hb⟩; replace BR := Aside0.mk (blk_below (kp BR.out) hb); replace BD := Aside0.mk (blk_below (kp (p7_6 (kp BD.out))) hb); replace HB := Aside0.mk (below_step (bl HB.out) hb); clear hb a0 a1 a2 a3 a4 a5 a6 f0 f1 f2 f3 f4 f5 f6; obtain ⟨a0, a1, a2, a3, a4, a5, a6⟩ := hc7 BD.out; obtain ⟨q0_, q1_, q2_, q3_, q4_, q5_, q6_⟩ := hc7 BR.out; obtain ⟨s0_, s1_, s2_, s3_, s4_, s5_, s6_⟩ := hf7 BR.out; have rd := RD.out; have dr := DR.out))
      refine bodyPost_ret (results_ct rfl _ _ gr 23 #[.int .i64 0, .int .i64 0, .int .i64 0, .int .i64 0, .int .i64 0, .int .i64 0, .int .i64 0] (0, 0) _ rfl (kp (p7_6 (kp (p7_5 (kp (p7_4 (kp (p7_3 (kp (p7_2 (kp (p7_1 (kp (p7_0 (kp BR.out))))))))))))))) hu rfl (by kernel_rfl)) rfl ?_
      exact ⟨rfl, bl HB.out⟩
    | true =>
      simp only [true_and, if_true, Prod.mk.injEq] at hr
      obtain ⟨rfl, rfl, rfl, rfl, rfl, rfl, rfl, rfl⟩ := hr
      go_wp2_with (first | (go_at_call 48; (with_reducible refine (dims_Right.calls v0 v1 v2 v3 v4 v5 v6 _ _ HA.out).mono ?_); rintro e wr ⟨rfl, hb⟩; replace BR := Aside0.mk (blk_below (kp BR.out) hb); replace BD := Aside0.mk (blk_below (kp (p7_6 (kp BD.out))) hb); replace HB := Aside0.mk (below_step (bl HB.out) hb); clear hb a0 a1 a2 a3 a4 a5 a6 f0 f1 f2 f3 f4 f5 f6; obtain ⟨a0, a1, a2, a3, a4, a5, a6⟩ := hc7 BD.out; obtain ⟨q0_, q1_, q2_, q3_, q4_, q5_, q6_⟩ := hc7 BR.out; obtain ⟨s0_, s1_, s2_, s3_, s4_, s5_, s6_⟩ := hf7 BR.out; have rd := RD.out; have dr := DR.out))
      refine bodyPost_ret (results_ct rfl _ _ gr 23 #[.int .i64 v0, .int .i64 v1, .int .i64 v2, .int .i64 v3, .int .i64 v4, .int .i64 v5, .int .i64 v6] (0, 0) _ rfl (kp (p7_6 (kp (p7_5 (kp (p7_4 (kp (p7_3 (kp (p7_2 (kp (p7_1 (kp (p7_0 (kp BR.out))))))))))))))) hu rfl (by kernel_rfl)) rfl ?_
      exact ⟨rfl, bl HB.out⟩
set_option maxHeartbeats 8000000 in
set_option maxRecDepth 100000 in
theorem each34_calls (is : Bool) (p q : Value) (v0 v1 v2 v3 v4 v5 v6 : Int) (w : World) (hcl : ∀ W, Below w.heap.size w W → Calls Tryd.prog 64 #[.int .i64 0, p, q] W (fun e W' => e = .returned (.int .i64 v0) ∧ Below W.heap.size W W') ∧ Calls Tryd.prog 64 #[.int .i64 1, p, q] W (fun e W' => e = .returned (.int .i64 v1) ∧ Below W.heap.size W W') ∧ Calls Tryd.prog 64 #[.int .i64 2, p, q] W (fun e W' => e = .returned (.int .i64 v2) ∧ Below W.heap.size W W') ∧ Calls Tryd.prog 64 #[.int .i64 3, p, q] W (fun e W' => e = .returned (.int .i64 v3) ∧ Below W.heap.size W W') ∧ Calls Tryd.prog 64 #[.int .i64 4, p, q] W (fun e W' => e = .returned (.int .i64 v4) ∧ Below W.heap.size W W') ∧ Calls Tryd.prog 64 #[.int .i64 5, p, q] W (fun e W' => e = .returned (.int .i64 v5) ∧ Below W.heap.size W W') ∧ Calls Tryd.prog 64 #[.int .i64 6, p, q] W (fun e W' => e = .returned (.int .i64 v6) ∧ Below W.heap.size W W')) (r0 r1 r2 r3 r4 r5 r6 : Int) (ok : Bool) (h : eachP is v0 v1 v2 v3 v4 v5 v6 = (r0, r1, r2, r3, r4, r5, r6, ok)) :
    Calls Tryd.prog 61 #[.bool is, .func (.func 64) #[] #[p, q]] w fun e w' => e = .returned (.tuple #[.agg #[.int .i64 r0, .int .i64 r1, .int .i64 r2, .int .i64 r3, .int .i64 r4, .int .i64 r5, .int .i64 r6], .bool ok]) ∧ Below w.heap.size w w' := by
  have hu := Tryd.underlying23
  have HC := Aside0.mk hcl
  have HR := Aside0.mk h
  clear hcl h
  go_enter Tryd.func61, Tryd.ntmps61
  cases is with
  | false =>
    have hr := HR.out
    unfold eachP at hr
    simp only [Bool.false_eq_true, false_and, if_false, Prod.mk.injEq] at hr
    obtain ⟨rfl, rfl, rfl, rfl, rfl, rfl, rfl, rfl⟩ := hr
    go_wp2_with (first | ((with_reducible refine gate_dst (N := 4) rfl ?_); refine box_event ?hg (N := 4) ?hd (cs := #[.int .i64 0, .int .i64 0, .int .i64 0, .int .i64 0, .int .i64 0, .int .i64 0, .int .i64 0]) (t := 23) ?hr ?_; (case hd => rfl); (case hg => rfl); (case hr => first | (go_simp; done) | (go_simp; rfl)); intro gr hg w1 hbox hb; have BR := Aside0.mk hbox; have HB := Aside0.mk hb; have GR := Aside0.mk (bsz (bl (Below.refl _ _)) hg : w.heap.size ≤ gr); obtain ⟨q0_, q1_, q2_, q3_, q4_, q5_, q6_⟩ := hc7 BR.out; obtain ⟨s0_, s1_, s2_, s3_, s4_, s5_, s6_⟩ := hf7 BR.out; clear hbox hb hg))
    refine bodyPost_ret (results_ct rfl _ _ gr 23 #[.int .i64 0, .int .i64 0, .int .i64 0, .int .i64 0, .int .i64 0, .int .i64 0, .int .i64 0] (0, 0) _ rfl (kp (p7_6 (kp (p7_5 (kp (p7_4 (kp (p7_3 (kp (p7_2 (kp (p7_1 (kp (p7_0 (kp BR.out))))))))))))))) hu rfl (by kernel_rfl)) rfl ?_
    exact ⟨rfl, bl HB.out⟩
  | true =>
    go_upto_region 4 with (first
      | ((with_reducible refine gate_dst (N := 4) rfl ?_); refine box_event ?hg (N := 4) ?hd (cs := #[.int .i64 0, .int .i64 0, .int .i64 0, .int .i64 0, .int .i64 0, .int .i64 0, .int .i64 0]) (t := 23) ?hr ?_; (case hd => rfl); (case hg => rfl); (case hr => first | (go_simp; done) | (go_simp; rfl)); intro gr hg w1 hbox hb; have BR := Aside0.mk hbox; have HB := Aside0.mk hb; have GR := Aside0.mk (bsz (bl (Below.refl _ _)) hg : w.heap.size ≤ gr); obtain ⟨q0_, q1_, q2_, q3_, q4_, q5_, q6_⟩ := hc7 BR.out; obtain ⟨s0_, s1_, s2_, s3_, s4_, s5_, s6_⟩ := hf7 BR.out; clear hbox hb hg)
      | ((with_reducible refine gate_dst (N := 6) rfl ?_); refine box_event ?hg (N := 6) ?hd (cs := #[.int .i64 0, .int .i64 0, .int .i64 0, .int .i64 0, .int .i64 0, .int .i64 0, .int .i64 0]) (t := 23) ?hr ?_; (case hd => rfl); (case hg => rfl); (case hr => first | (go_simp; done) | (go_simp; rfl)); intro gd hg w2 hbox hb; have GD := Aside0.mk (bsz (bl HB.out) hg : w.heap.size ≤ gd); have RD := Aside0.mk (nlt (kp BR.out) hg : gr ≠ gd); have DR := Aside0.mk (ngt (kp BR.out) hg : gd ≠ gr); replace BR := Aside0.mk (blk_below (kp BR.out) hb); have BD := Aside0.mk hbox; replace HB := Aside0.mk (below_step (bl HB.out) hb); clear q0_ q1_ q2_ q3_ q4_ q5_ q6_ s0_ s1_ s2_ s3_ s4_ s5_ s6_; clear hbox hb hg))
    go_wp2
    refine wp_loop_rounds 8 ?_
    rw [rounds_succ]
    go_wp2_with (first | (go_at_call 64; (with_reducible refine ((HC.out _ (bl HB.out)).1).mono ?_); rintro e wc0 ⟨rfl, hb⟩; replace BR := Aside0.mk (blk_below (kp BR.out) hb); replace BD := Aside0.mk (blk_below (kp BD.out) hb); replace HB := Aside0.mk (below_step (bl HB.out) hb); clear hb; obtain ⟨a0, a1, a2, a3, a4, a5, a6⟩ := hc7 BD.out; obtain ⟨f0, f1, f2, f3, f4, f5, f6⟩ := hf7 BD.out))
    clear a0 a1 a2 a3 a4 a5 a6 f0 f1 f2 f3 f4 f5 f6
    rw [rounds_succ]
    go_wp2_with (first | (go_at_call 64; (with_reducible refine ((HC.out _ (bl HB.out)).2.1).mono ?_); rintro e wc1 ⟨rfl, hb⟩; replace BR := Aside0.mk (blk_below (kp BR.out) hb); replace BD := Aside0.mk (blk_below (kp (p7_0 (kp BD.out))) hb); replace HB := Aside0.mk (below_step (bl HB.out) hb); clear hb; obtain ⟨a0, a1, a2, a3, a4, a5, a6⟩ := hc7 BD.out; obtain ⟨f0, f1, f2, f3, f4, f5, f6⟩ := hf7 BD.out))
    clear a0 a1 a2 a3 a4 a5 a6 f0 f1 f2 f3 f4 f5 f6
    rw [rounds_succ]
    go_wp2_with (first | (go_at_call 64; (with_reducible refine ((HC.out _ (bl HB.out)).2.2.1).mono ?_); rintro e wc2 ⟨rfl, hb⟩; replace BR := Aside0.mk (blk_below (kp BR.out) hb); replace BD := Aside0.mk (blk_below (kp (p7_1 (kp BD.out))) hb); replace HB := Aside0.mk (below_step (bl HB.out) hb); clear hb; obtain ⟨a0, a1, a2, a3, a4, a5, a6⟩ := hc7 BD.out; obtain ⟨f0, f1, f2, f3, f4, f5, f6⟩ := hf7 BD.out))
    clear a0 a1 a2 a3 a4 a5 a6 f0 f1 f2 f3 f4 f5 f6
    rw [rounds_succ]
    go_wp2_with (first | (go_at_call 64; (with_reducible refine ((HC.out _ (bl HB.out)).2.2.2.1).mono ?_); rintro e wc3 ⟨rfl, hb⟩; replace BR := Aside0.mk (blk_below (kp BR.out) hb); replace BD := Aside0.mk (blk_below (kp (p7_2 (kp BD.out))) hb); replace HB := Aside0.mk (below_step (bl HB.out) hb); clear hb; obtain ⟨a0, a1, a2, a3, a4, a5, a6⟩ := hc7 BD.out; obtain ⟨f0, f1, f2, f3, f4, f5, f6⟩ := hf7 BD.out))
    clear a0 a1 a2 a3 a4 a5 a6 f0 f1 f2 f3 f4 f5 f6
    rw [rounds_succ]
    go_wp2_with (first | (go_at_call 64; (with_reducible refine ((HC.out _ (bl HB.out)).2.2.2.2.1).mono ?_); rintro e wc4 ⟨rfl, hb⟩; replace BR := Aside0.mk (blk_below (kp BR.out) hb); replace BD := Aside0.mk (blk_below (kp (p7_3 (kp BD.out))) hb); replace HB := Aside0.mk (below_step (bl HB.out) hb); clear hb; obtain ⟨a0, a1, a2, a3, a4, a5, a6⟩ := hc7 BD.out; obtain ⟨f0, f1, f2, f3, f4, f5, f6⟩ := hf7 BD.out))
    clear a0 a1 a2 a3 a4 a5 a6 f0 f1 f2 f3 f4 f5 f6
    rw [rounds_succ]
    go_wp2_with (first | (go_at_call 64; (with_reducible refine ((HC.out _ (bl HB.out)).2.2.2.2.2.1).mono ?_); rintro e wc5 ⟨rfl, hb⟩; replace BR := Aside0.mk (blk_below (kp BR.out) hb); replace BD := Aside0.mk (blk_below (kp (p7_4 (kp BD.out))) hb); replace HB := Aside0.mk (below_step (bl HB.out) hb); clear hb; obtain ⟨a0, a1, a2, a3, a4, a5, a6⟩ := hc7 BD.out; obtain ⟨f0, f1, f2, f3, f4, f5, f6⟩ := hf7 BD.out))
    clear a0 a1 a2 a3 a4 a5 a6 f0 f1 f2 f3 f4 f5 f6
    rw [rounds_succ]
    go_wp2_with (first | (go_at_call 64; (with_reducible refine ((HC.out _ (bl HB.out)).2.2.2.2.2.2).mono ?_); rintro e wc6 ⟨rfl, hb⟩; replace BR := Aside0.mk (blk_below (kp BR.out) hb); replace BD := Aside0.mk (blk_below (kp (p7_5 (kp BD.out))) hb); replace HB := Aside0.mk (below_step (bl HB.out) hb); clear hb; obtain ⟨a0, a1, a2, a3, a4, a5, a6⟩ := hc7 BD.out; obtain ⟨f0, f1, f2, f3, f4, f5, f6⟩ := hf7 BD.out))
    clear a0 a1 a2 a3 a4 a5 a6 f0 f1 f2 f3 f4 f5 f6
    rw [rounds_succ]
    obtain ⟨a0, a1, a2, a3, a4, a5, a6⟩ := hc7 BD.out
    obtain ⟨f0, f1, f2, f3, f4, f5, f6⟩ := hf7 BD.out
    have hr := HR.out
    clear HR HC
    unfold eachP at hr
    obtain ⟨R, hR⟩ : ∃ R, allR [v0, v1, v2, v3, v4, v5, v6] = R := ⟨_, rfl⟩
    have HA : Aside0 (dims_Right.f v0 v1 v2 v3 v4 v5 v6 = some R) := ⟨by rw [← hR]; rfl⟩
    rw [hR] at hr
    clear hR
    cases R with
    | false =>
      simp only [Bool.false_eq_true, and_false, if_false, Prod.mk.injEq] at hr
      obtain ⟨rfl, rfl, rfl, rfl, rfl, rfl, rfl, rfl⟩ := hr
      go_wp2_with (first | (go_at_call 48; (with_reducible refine (dims_Right.calls v0 v1 v2 v3 v4 v5 v6 _ _ HA.out).mono ?_); rintro e wr ⟨rfl, hb⟩; replace BR := Aside0.mk (blk_below (kp BR.out) hb); replace BD := Aside0.mk (blk_below (kp (p7_6 (kp BD.out))) hb); replace HB := Aside0.mk (below_step (bl HB.out) hb); clear hb a0 a1 a2 a3 a4 a5 a6 f0 f1 f2 f3 f4 f5 f6; obtain ⟨a0, a1, a2, a3, a4, a5, a6⟩ := hc7 BD.out; obtain ⟨q0_, q1_, q2_, q3_, q4_, q5_, q6_⟩ := hc7 BR.out; obtain ⟨s0_, s1_, s2_, s3_, s4_, s5_, s6_⟩ := hf7 BR.out; have rd := RD.out; have dr := DR.out))
      refine bodyPost_ret (results_ct rfl _ _ gr 23 #[.int .i64 0, .int .i64 0, .int .i64 0, .int .i64 0, .int .i64 0, .int .i64 0, .int .i64 0] (0, 0) _ rfl (kp (p7_6 (kp (p7_5 (kp (p7_4 (kp (p7_3 (kp (p7_2 (kp (p7_1 (kp (p7_0 (kp BR.out))))))))))))))) hu rfl (by kernel_rfl)) rfl ?_
      exact ⟨rfl, bl HB.out⟩
    | true =>
      simp only [true_and, if_true, Prod.mk.injEq] at hr
      obtain ⟨rfl, rfl, rfl, rfl, rfl, rfl, rfl, rfl⟩ := hr
      go_wp2_with (first | (go_at_call 48; (with_reducible refine (dims_Right.calls v0 v1 v2 v3 v4 v5 v6 _ _ HA.out).mono ?_); rintro e wr ⟨rfl, hb⟩; replace BR := Aside0.mk (blk_below (kp BR.out) hb); replace BD := Aside0.mk (blk_below (kp (p7_6 (kp BD.out))) hb); replace HB := Aside0.mk (below_step (bl HB.out) hb); clear hb a0 a1 a2 a3 a4 a5 a6 f0 f1 f2 f3 f4 f5 f6; obtain ⟨a0, a1, a2, a3, a4, a5, a6⟩ := hc7 BD.out; obtain ⟨q0_, q1_, q2_, q3_, q4_, q5_, q6_⟩ := hc7 BR.out; obtain ⟨s0_, s1_, s2_, s3_, s4_, s5_, s6_⟩ := hf7 BR.out; have rd := RD.out; have dr := DR.out))
      refine bodyPost_ret (results_ct rfl _ _ gr 23 #[.int .i64 v0, .int .i64 v1, .int .i64 v2, .int .i64 v3, .int .i64 v4, .int .i64 v5, .int .i64 v6] (0, 0) _ rfl (kp (p7_6 (kp (p7_5 (kp (p7_4 (kp (p7_3 (kp (p7_2 (kp (p7_1 (kp (p7_0 (kp BR.out))))))))))))))) hu rfl (by kernel_rfl)) rfl ?_
      exact ⟨rfl, bl HB.out⟩
end Go.Proofs.YthfibffgmoblaaaDoor
namespace Go.Proofs.YthfibffgmoblaaaDoor
open Go Go.RowKit Go.Proofs.YthfibffgmoblaaaDoor.Di Go.Proofs.YthfibffgmoblaaaDoor.Sq Go.Proofs.YthfibffgmoblaaaDoorW.PrintWords Go.Proofs.YthfibffgmoblaaaDoorW.PrintLast Go.Proofs.YthfibffgmoblaaaDoorW.PrintMore
attribute [local go_sem] max2_int min2_int max_two min_two max_three min_three max_four min_four   -- for this text's walks alone
set_option linter.unusedVariables false
set_option linter.unusedSimpArgs false
set_option maxHeartbeats 1000000 in
set_option maxRecDepth 100000 in
theorem add1_0 (a0 a1 a2 a3 a4 a5 a6 b0 b1 b2 b3 b4 b5 b6 : Int) (ga gb : Nat) (w : World) (ha : w.heap[ga]? = some (.cells #[.int .i64 a0, .int .i64 a1, .int .i64 a2, .int .i64 a3, .int .i64 a4, .int .i64 a5, .int .i64 a6] 23 (0, 0))) (hb : w.heap[gb]? = some (.cells #[.int .i64 b0, .int .i64 b1, .int .i64 b2, .int .i64 b3, .int .i64 b4, .int .i64 b5, .int .i64 b6] 23 (0, 0))) :
    Calls Tryd.prog 62 #[.int .i64 0, .pointer (some ⟨ga, 0, none⟩), .pointer (some ⟨gb, 0, none⟩)] w fun e w' => e = .returned (.int .i64 (wrap64 (a0 + b0))) ∧ Below w.heap.size w w' := by
  obtain ⟨x0, x1, x2, x3, x4, x5, x6⟩ := hc7 ha
  obtain ⟨y0, y1, y2, y3, y4, y5, y6⟩ := hc7 hb
  clear ha hb
  go_enter Tryd.func62, Tryd.ntmps62
  go_wp2
  go_region
  all_goals (try go_wp2)
  go_ret
  exact ⟨rfl, bl (Below.refl _ _)⟩
set_option maxHeartbeats 1000000 in
set_option maxRecDepth 100000 in
theorem add1_1 (a0 a1 a2 a3 a4 a5 a6 b0 b1 b2 b3 b4 b5 b6 : Int) (ga gb : Nat) (w : World) (ha : w.heap[ga]? = some (.cells #[.int .i64 a0, .int .i64 a1, .int .i64 a2, .int .i64 a3, .int .i64 a4, .int .i64 a5, .int .i64 a6] 23 (0, 0))) (hb : w.heap[gb]? = some (.cells #[.int .i64 b0, .int .i64 b1, .int .i64 b2, .int .i64 b3, .int .i64 b4, .int .i64 b5, .int .i64 b6] 23 (0, 0))) :
    Calls Tryd.prog 62 #[.int .i64 1, .pointer (some ⟨ga, 0, none⟩), .pointer (some ⟨gb, 0, none⟩)] w fun e w' => e = .returned (.int .i64 (wrap64 (a1 + b1))) ∧ Below w.heap.size w w' := by
  obtain ⟨x0, x1, x2, x3, x4, x5, x6⟩ := hc7 ha
  obtain ⟨y0, y1, y2, y3, y4, y5, y6⟩ := hc7 hb
  clear ha hb
  go_enter Tryd.func62, Tryd.ntmps62
  go_wp2
  go_region
  all_goals (try go_wp2)
  go_ret
  exact ⟨rfl, bl (Below.refl _ _)⟩
set_option maxHeartbeats 1000000 in
set_option maxRecDepth 100000 in
theorem add1_2 (a0 a1 a2 a3 a4 a5 a6 b0 b1 b2 b3 b4 b5 b6 : Int) (ga gb : Nat) (w : World) (ha : w.heap[ga]? = some (.cells #[.int .i64 a0, .int .i64 a1, .int .i64 a2, .int .i64 a3, .int .i64 a4, .int .i64 a5, .int .i64 a6] 23 (0, 0))) (hb : w.heap[gb]? = some (.cells #[.int .i64 b0, .int .i64 b1, .int .i64 b2, .int .i64 b3, .int .i64 b4, .int .i64 b5, .int .i64 b6] 23 (0, 0))) :
    Calls Tryd.prog 62 #[.int .i64 2, .pointer (some ⟨ga, 0, none⟩), .pointer (some ⟨gb, 0, none⟩)] w fun e w' => e = .returned (.int .i64 (wrap64 (a2 + b2))) ∧ Below w.heap.size w w' := by
  obtain ⟨x0, x1, x2, x3, x4, x5, x6⟩ := hc7 ha
  obtain ⟨y0, y1, y2, y3, y4, y5, y6⟩ := hc7 hb
  clear ha hb
  go_enter Tryd.func62, Tryd.ntmps62
  go_wp2
  go_region
  all_goals (try go_wp2)
  go_ret
  exact ⟨rfl, bl (Below.refl _ _)⟩
set_option maxHeartbeats 1000000 in
set_option maxRecDepth 100000 in
theorem add1_3 (a0 a1 a2 a3 a4 a5 a6 b0 b1 b2 b3 b4 b5 b6 : Int) (ga gb : Nat) (w : World) (ha : w.heap[ga]? = some (.cells #[.int .i64 a0, .int .i64 a1, .int .i64 a2, .int .i64 a3, .int .i64 a4, .int .i64 a5, .int .i64 a6] 23 (0, 0))) (hb : w.heap[gb]? = some (.cells #[.int .i64 b0, .int .i64 b1, .int .i64 b2, .int .i64 b3, .int .i64 b4, .int .i64 b5, .int .i64 b6] 23 (0, 0))) :
    Calls Tryd.prog 62 #[.int .i64 3, .pointer (some ⟨ga, 0, none⟩), .pointer (some ⟨gb, 0, none⟩)] w fun e w' => e = .returned (.int .i64 (wrap64 (a3 + b3))) ∧ Below w.heap.size w w' := by
  obtain ⟨x0, x1, x2, x3, x4, x5, x6⟩ := hc7 ha
  obtain ⟨y0, y1, y2, y3, y4, y5, y6⟩ := hc7 hb
  clear ha hb
  go_enter Tryd.func62, Tryd.ntmps62
  go_wp2
  go_region
  all_goals (try go_wp2)
  go_ret
  exact ⟨rfl, bl (Below.refl _ _)⟩
set_option maxHeartbeats 1000000 in
set_option maxRecDepth 100000 in
theorem add1_4 (a0 a1 a2 a3 a4 a5 a6 b0 b1 b2 b3 b4 b5 b6 : Int) (ga gb : Nat) (w : World) (ha : w.heap[ga]? = some (.cells #[.int .i64 a0, .int .i64 a1, .int .i64 a2, .int .i64 a3, .int .i64 a4, .int .i64 a5, .int .i64 a6] 23 (0, 0))) (hb : w.heap[gb]? = some (.cells #[.int .i64 b0, .int .i64 b1, .int .i64 b2, .int .i64 b3, .int .i64 b4, .int .i64 b5, .int .i64 b6] 23 (0, 0))) :
    Calls Tryd.prog 62 #[.int .i64 4, .pointer (some ⟨ga, 0, none⟩), .pointer (some ⟨gb, 0, none⟩)] w fun e w' => e = .returned (.int .i64 (wrap64 (a4 + b4))) ∧ Below w.heap.size w w' := by
  obtain ⟨x0, x1, x2, x3, x4, x5, x6⟩ := hc7 ha
  obtain ⟨y0, y1, y2, y3, y4, y5, y6⟩ := hc7 hb
  clear ha hb
  go_enter Tryd.func62, Tryd.ntmps62
  go_wp2
  go_region
  all_goals (try go_wp2)
  go_ret
  exact ⟨rfl, bl (Below.refl _ _)⟩
set_option maxHeartbeats 1000000 in
set_option maxRecDepth 100000 in
theorem add1_5 (a0 a1 a2 a3 a4 a5 a6 b0 b1 b2 b3 b4 b5 b6 : Int) (ga gb : Nat) (w : World) (ha : w.heap[ga]? = some (.cells #[.int .i64 a0, .int .i64 a1, .int .i64 a2, .int .i64 a3, .int .i64 a4, .int .i64 a5, .int .i64 a6] 23 (0, 0))) (hb : w.heap[gb]? = some (.cells #[.int .i64 b0, .int .i64 b1, .int .i64 b2, .int .i64 b3, .int .i64 b4, .int .i64 b5, .int .i64 b6] 23 (0, 0))) :
    Calls Tryd.prog 62 #[.int .i64 5, .pointer (some ⟨ga, 0, none⟩), .pointer (some ⟨gb, 0, none⟩)] w fun e w' => e = .returned (.int .i64 (wrap64 (a5 + b5))) ∧ Below w.heap.size w w' := by
  obtain ⟨x0, x1, x2, x3, x4, x5, x6⟩ := hc7 ha
  obtain ⟨y0, y1, y2, y3, y4, y5, y6⟩ := hc7 hb
  clear ha hb
  go_enter Tryd.func62, Tryd.ntmps62
  go_wp2
  go_region
  all_goals (try go_wp2)
  go_ret
  exact ⟨rfl, bl (Below.refl _ _)⟩
set_option maxHeartbeats 1000000 in
set_option maxRecDepth 100000 in
theorem add1_6 (a0 a1 a2 a3 a4 a5 a6 b0 b1 b2 b3 b4 b5 b6 : Int) (ga gb : Nat) (w : World) (ha : w.heap[ga]? = some (.cells #[.int .i64 a0, .int .i64 a1, .int .i64 a2, .int .i64 a3, .int .i64 a4, .int .i64 a5, .int .i64 a6] 23 (0, 0))) (hb : w.heap[gb]? = some (.cells #[.int .i64 b0, .int .i64 b1, .int .i64 b2, .int .i64 b3, .int .i64 b4, .int .i64 b5, .int .i64 b6] 23 (0, 0))) :
    Calls Tryd.prog 62 #[.int .i64 6, .pointer (some ⟨ga, 0, none⟩), .pointer (some ⟨gb, 0, none⟩)] w fun e w' => e = .returned (.int .i64 (wrap64 (a6 + b6))) ∧ Below w.heap.size w w' := by
  obtain ⟨x0, x1, x2, x3, x4, x5, x6⟩ := hc7 ha
  obtain ⟨y0, y1, y2, y3, y4, y5, y6⟩ := hc7 hb
  clear ha hb
  go_enter Tryd.func62, Tryd.ntmps62
  go_wp2
  go_region
  all_goals (try go_wp2)
  go_ret
  exact ⟨rfl, bl (Below.refl _ _)⟩
set_option maxHeartbeats 1000000 in
set_option maxRecDepth 100000 in
theorem sub1_0 (a0 a1 a2 a3 a4 a5 a6 b0 b1 b2 b3 b4 b5 b6 : Int) (ga gb : Nat) (w : World) (ha : w.heap[ga]? = some (.cells #[.int .i64 a0, .int .i64 a1, .int .i64 a2, .int .i64 a3, .int .i64 a4, .int .i64 a5, .int .i64 a6] 23 (0, 0))) (hb : w.heap[gb]? = some (.cells #[.int .i64 b0, .int .i64 b1, .int .i64 b2, .int .i64 b3, .int .i64 b4, .int .i64 b5, .int .i64 b6] 23 (0, 0))) :
    Calls Tryd.prog 64 #[.int .i64 0, .pointer (some ⟨ga, 0, none⟩), .pointer (some ⟨gb, 0, none⟩)] w fun e w' => e = .returned (.int .i64 (wrap64 (a0 - b0))) ∧ Below w.heap.size w w' := by
  obtain ⟨x0, x1, x2, x3, x4, x5, x6⟩ := hc7 ha
  obtain ⟨y0, y1, y2, y3, y4, y5, y6⟩ := hc7 hb
  clear ha hb
  go_enter Tryd.func64, Tryd.ntmps64
  go_wp2
  go_region
  all_goals (try go_wp2)
  go_ret
  exact ⟨rfl, bl (Below.refl _ _)⟩
set_option maxHeartbeats 1000000 in
set_option maxRecDepth 100000 in
theorem sub1_1 (a0 a1 a2 a3 a4 a5 a6 b0 b1 b2 b3 b4 b5 b6 : Int) (ga gb : Nat) (w : World) (ha : w.heap[ga]? = some (.cells #[.int .i64 a0, .int .i64 a1, .int .i64 a2, .int .i64 a3, .int .i64 a4, .int .i64 a5, .int .i64 a6] 23 (0, 0))) (hb : w.heap[gb]? = some (.cells #[.int .i64 b0, .int .i64 b1, .int .i64 b2, .int .i64 b3, .int .i64 b4, .int .i64 b5, .int .i64 b6] 23 (0, 0))) :
    Calls Tryd.prog 64 #[.int .i64 1, .pointer (some ⟨ga, 0, none⟩), .pointer (some ⟨gb, 0, none⟩)] w fun e w' => e = .returned (.int .i64 (wrap64 (a1 - b1))) ∧ Below w.heap.size w w' := by
  obtain ⟨x0, x1, x2, x3, x4, x5, x6⟩ := hc7 ha
  obtain ⟨y0, y1, y2, y3, y4, y5, y6⟩ := hc7 hb
  clear ha hb
  go_enter Tryd.func64, Tryd.ntmps64
  go_wp2
  go_region
  all_goals (try go_wp2)
  go_ret
  exact ⟨rfl, bl (Below.refl _ _)⟩
set_option maxHeartbeats 1000000 in
set_option maxRecDepth 100000 in
theorem sub1_2 (a0 a1 a2 a3 a4 a5 a6 b0 b1 b2 b3 b4 b5 b6 : Int) (ga gb : Nat) (w : World) (ha : w.heap[ga]? = some (.cells #[.int .i64 a0, .int .i64 a1, .int .i64 a2, .int .i64 a3, .int .i64 a4, .int .i64 a5, .int .i64 a6] 23 (0, 0))) (hb : w.heap[gb]? = some (.cells #[.int .i64 b0, .int .i64 b1, .int .i64 b2, .int .i64 b3, .int .i64 b4, .int .i64 b5, .int .i64 b6] 23 (0, 0))) :
    Calls Tryd.prog 64 #[.int .i64 2, .pointer (some ⟨ga, 0, none⟩), .pointer (some ⟨gb, 0, none⟩)] w fun e w' => e = .returned (.int .i64 (wrap64 (a2 - b2))) ∧ Below w.heap.size w w' := by
  obtain ⟨x0, x1, x2, x3, x4, x5, x6⟩ := hc7 ha
  obtain ⟨y0, y1, y2, y3, y4, y5, y6⟩ := hc7 hb
  clear ha hb
  go_enter Tryd.func64, Tryd.ntmps64
  go_wp2
  go_region
  all_goals (try go_wp2)
  go_ret
  exact ⟨rfl, bl (Below.refl _ _)⟩
set_option maxHeartbeats 1000000 in
set_option maxRecDepth 100000 in
theorem sub1_3 (a0 a1 a2 a3 a4 a5 a6 b0 b1 b2 b3 b4 b5 b6 : Int) (ga gb : Nat) (w : World) (ha : w.heap[ga]? = some (.cells #[.int .i64 a0, .int .i64 a1, .int .i64 a2, .int .i64 a3, .int .i64 a4, .int .i64 a5, .int .i64 a6] 23 (0, 0))) (hb : w.heap[gb]? = some (.cells #[.int .i64 b0, .int .i64 b1, .int .i64 b2, .int .i64 b3, .int .i64 b4, .int .i64 b5, .int .i64 b6] 23 (0, 0))) :
    Calls Tryd.prog 64 #[.int .i64 3, .pointer (some ⟨ga, 0, none⟩), .pointer (some ⟨gb, 0, none⟩)] w fun e w' => e = .returned (.int .i64 (wrap64 (a3 - b3))) ∧ Below w.heap.size w w' := by
  obtain ⟨x0, x1, x2, x3, x4, x5, x6⟩ := hc7 ha
  obtain ⟨y0, y1, y2, y3, y4, y5, y6⟩ := hc7 hb
  clear ha hb
  go_enter Tryd.func64, Tryd.ntmps64
  go_wp2
  go_region
  all_goals (try go_wp2)
  go_ret
  exact ⟨rfl, bl (Below.refl _ _)⟩
set_option maxHeartbeats 1000000 in
set_option maxRecDepth 100000 in
theorem sub1_4 (a0 a1 a2 a3 a4 a5 a6 b0 b1 b2 b3 b4 b5 b6 : Int) (ga gb : Nat) (w : World) (ha : w.heap[ga]? = some (.cells #[.int .i64 a0, .int .i64 a1, .int .i64 a2, .int .i64 a3, .int .i64 a4, .int .i64 a5, .int .i64 a6] 23 (0, 0))) (hb : w.heap[gb]? = some (.cells #[.int .i64 b0, .int .i64 b1, .int .i64 b2, .int .i64 b3, .int .i64 b4, .int .i64 b5, .int .i64 b6] 23 (0, 0))) :
    Calls Tryd.prog 64 #[.int .i64 4, .pointer (some ⟨ga, 0, none⟩), .pointer (some ⟨gb, 0, none⟩)] w fun e w' => e = .returned (.int .i64 (wrap64 (a4 - b4))) ∧ Below w.heap.size w w' := by
  obtain ⟨x0, x1, x2, x3, x4, x5, x6⟩ := hc7 ha
  obtain ⟨y0, y1, y2, y3, y4, y5, y6⟩ := hc7 hb
  clear ha hb
  go_enter Tryd.func64, Tryd.ntmps64
  go_wp2
  go_region
  all_goals (try go_wp2)
  go_ret
  exact ⟨rfl, bl (Below.refl _ _)⟩
set_option maxHeartbeats 1000000 in
set_option maxRecDepth 100000 in
theorem sub1_5 (a0 a1 a2 a3 a4 a5 a6 b0 b1 b2 b3 b4 b5 b6 : Int) (ga gb : Nat) (w : World) (ha : w.heap[ga]? = some (.cells #[.int .i64 a0, .int .i64 a1, .int .i64 a2, .int .i64 a3, .int .i64 a4, .int .i64 a5, .int .i64 a6] 23 (0, 0))) (hb : w.heap[gb]? = some (.cells #[.int .i64 b0, .int .i64 b1, .int .i64 b2, .int .i64 b3, .int .i64 b4, .int .i64 b5, .int .i64 b6] 23 (0, 0))) :
    Calls Tryd.prog 64 #[.int .i64 5, .pointer (some ⟨ga, 0, none⟩), .pointer (some ⟨gb, 0, none⟩)] w fun e w' => e = .returned (.int .i64 (wrap64 (a5 - b5))) ∧ Below w.heap.size w w' := by
  obtain ⟨x0, x1, x2, x3, x4, x5, x6⟩ := hc7 ha
  obtain ⟨y0, y1, y2, y3, y4, y5, y6⟩ := hc7 hb
  clear ha hb
  go_enter Tryd.func64, Tryd.ntmps64
  go_wp2
  go_region
  all_goals (try go_wp2)
  go_ret
  exact ⟨rfl, bl (Below.refl _ _)⟩
set_option maxHeartbeats 1000000 in
set_option maxRecDepth 100000 in
theorem sub1_6 (a0 a1 a2 a3 a4 a5 a6 b0 b1 b2 b3 b4 b5 b6 : Int) (ga gb : Nat) (w : World) (ha : w.heap[ga]? = some (.cells #[.int .i64 a0, .int .i64 a1, .int .i64 a2, .int .i64 a3, .int .i64 a4, .int .i64 a5, .int .i64 a6] 23 (0, 0))) (hb : w.heap[gb]? = some (.cells #[.int .i64 b0, .int .i64 b1, .int .i64 b2, .int .i64 b3, .int .i64 b4, .int .i64 b5, .int .i64 b6] 23 (0, 0))) :
    Calls Tryd.prog 64 #[.int .i64 6, .pointer (some ⟨ga, 0, none⟩), .pointer (some ⟨gb, 0, none⟩)] w fun e w' => e = .returned (.int .i64 (wrap64 (a6 - b6))) ∧ Below w.heap.size w w' := by
  obtain ⟨x0, x1, x2, x3, x4, x5, x6⟩ := hc7 ha
  obtain ⟨y0, y1, y2, y3, y4, y5, y6⟩ := hc7 hb
  clear ha hb
  go_enter Tryd.func64, Tryd.ntmps64
  go_wp2
  go_region
  all_goals (try go_wp2)
  go_ret
  exact ⟨rfl, bl (Below.refl _ _)⟩
set_option maxHeartbeats 1000000 in
set_option maxRecDepth 100000 in
theorem times1_0 (a0 a1 a2 a3 a4 a5 a6 n : Int) (ga gb : Nat) (w : World) (ha : w.heap[ga]? = some (.cells #[.int .i64 a0, .int .i64 a1, .int .i64 a2, .int .i64 a3, .int .i64 a4, .int .i64 a5, .int .i64 a6] 23 (0, 0))) (hb : w.heap[gb]? = some (.cells #[.int .i64 n] 3 (0, 0))) :
    Calls Tryd.prog 68 #[.int .i64 0, .pointer (some ⟨ga, 0, none⟩), .pointer (some ⟨gb, 0, none⟩)] w fun e w' => e = .returned (.int .i64 (wrap64 (a0 * n))) ∧ Below w.heap.size w w' := by
  obtain ⟨x0, x1, x2, x3, x4, x5, x6⟩ := hc7 ha
  have y0 := hc1 hb
  clear ha hb
  go_enter Tryd.func68, Tryd.ntmps68
  go_wp2
  go_region
  all_goals (try go_wp2)
  go_ret
  exact ⟨rfl, bl (Below.refl _ _)⟩
set_option maxHeartbeats 1000000 in
set_option maxRecDepth 100000 in
theorem times1_1 (a0 a1 a2 a3 a4 a5 a6 n : Int) (ga gb : Nat) (w : World) (ha : w.heap[ga]? = some (.cells #[.int .i64 a0, .int .i64 a1, .int .i64 a2, .int .i64 a3, .int .i64 a4, .int .i64 a5, .int .i64 a6] 23 (0, 0))) (hb : w.heap[gb]? = some (.cells #[.int .i64 n] 3 (0, 0))) :
    Calls Tryd.prog 68 #[.int .i64 1, .pointer (some ⟨ga, 0, none⟩), .pointer (some ⟨gb, 0, none⟩)] w fun e w' => e = .returned (.int .i64 (wrap64 (a1 * n))) ∧ Below w.heap.size w w' := by
  obtain ⟨x0, x1, x2, x3, x4, x5, x6⟩ := hc7 ha
  have y0 := hc1 hb
  clear ha hb
  go_enter Tryd.func68, Tryd.ntmps68
  go_wp2
  go_region
  all_goals (try go_wp2)
  go_ret
  exact ⟨rfl, bl (Below.refl _ _)⟩
set_option maxHeartbeats 1000000 in
set_option maxRecDepth 100000 in
theorem times1_2 (a0 a1 a2 a3 a4 a5 a6 n : Int) (ga gb : Nat) (w : World) (ha : w.heap[ga]? = some (.cells #[.int .i64 a0, .int .i64 a1, .int .i64 a2, .int .i64 a3, .int .i64 a4, .int .i64 a5, .int .i64 a6] 23 (0, 0))) (hb : w.heap[gb]? = some (.cells #[.int .i64 n] 3 (0, 0))) :
    Calls Tryd.prog 68 #[.int .i64 2, .pointer (some ⟨ga, 0, none⟩), .pointer (some ⟨gb, 0, none⟩)] w fun e w' => e = .returned (.int .i64 (wrap64 (a2 * n))) ∧ Below w.heap.size w w' := by
  obtain ⟨x0, x1, x2, x3, x4, x5, x6⟩ := hc7 ha
  have y0 := hc1 hb
  clear ha hb
  go_enter Tryd.func68, Tryd.ntmps68
  go_wp2
  go_region
  all_goals (try go_wp2)
  go_ret
  exact ⟨rfl, bl (Below.refl _ _)⟩
set_option maxHeartbeats 1000000 in
set_option maxRecDepth 100000 in
theorem times1_3 (a0 a1 a2 a3 a4 a5 a6 n : Int) (ga gb : Nat) (w : World) (ha : w.heap[ga]? = some (.cells #[.int .i64 a0, .int .i64 a1, .int .i64 a2, .int .i64 a3, .int .i64 a4, .int .i64 a5, .int .i64 a6] 23 (0, 0))) (hb : w.heap[gb]? = some (.cells #[.int .i64 n] 3 (0, 0))) :
    Calls Tryd.prog 68 #[.int .i64 3, .pointer (some ⟨ga, 0, none⟩), .pointer (some ⟨gb, 0, none⟩)] w fun e w' => e = .returned (.int .i64 (wrap64 (a3 * n))) ∧ Below w.heap.size w w' := by
  obtain ⟨x0, x1, x2, x3, x4, x5, x6⟩ := hc7 ha
  have y0 := hc1 hb
  clear ha hb
  go_enter Tryd.func68, Tryd.ntmps68
  go_wp2
  go_region
  all_goals (try go_wp2)
  go_ret
  exact ⟨rfl, bl (Below.refl _ _)⟩
set_option maxHeartbeats 1000000 in
set_option maxRecDepth 100000 in
theorem times1_4 (a0 a1 a2 a3 a4 a5 a6 n : Int) (ga gb : Nat) (w : World) (ha : w.heap[ga]? = some (.cells #[.int .i64 a0, .int .i64 a1, .int .i64 a2, .int .i64 a3, .int .i64 a4, .int .i64 a5, .int .i64 a6] 23 (0, 0))) (hb : w.heap[gb]? = some (.cells #[.int .i64 n] 3 (0, 0))) :
    Calls Tryd.prog 68 #[.int .i64 4, .pointer (some ⟨ga, 0, none⟩), .pointer (some ⟨gb, 0, none⟩)] w fun e w' => e = .returned (.int .i64 (wrap64 (a4 * n))) ∧ Below w.heap.size w w' := by
  obtain ⟨x0, x1, x2, x3, x4, x5, x6⟩ := hc7 ha
  have y0 := hc1 hb
  clear ha hb
  go_enter Tryd.func68, Tryd.ntmps68
  go_wp2
  go_region
  all_goals (try go_wp2)
  go_ret
  exact ⟨rfl, bl (Below.refl _ _)⟩
set_option maxHeartbeats 1000000 in
set_option maxRecDepth 100000 in
theorem times1_5 (a0 a1 a2 a3 a4 a5 a6 n : Int) (ga gb : Nat) (w : World) (ha : w.heap[ga]? = some (.cells #[.int .i64 a0, .int .i64 a1, .int .i64 a2, .int .i64 a3, .int .i64 a4, .int .i64 a5, .int .i64 a6] 23 (0, 0))) (hb : w.heap[gb]? = some (.cells #[.int .i64 n] 3 (0, 0))) :
    Calls Tryd.prog 68 #[.int .i64 5, .pointer (some ⟨ga, 0, none⟩), .pointer (some ⟨gb, 0, none⟩)] w fun e w' => e = .returned (.int .i64 (wrap64 (a5 * n))) ∧ Below w.heap.size w w' := by
  obtain ⟨x0, x1, x2, x3, x4, x5, x6⟩ := hc7 ha
  have y0 := hc1 hb
  clear ha hb
  go_enter Tryd.func68, Tryd.ntmps68
  go_wp2
  go_region
  all_goals (try go_wp2)
  go_ret
  exact ⟨rfl, bl (Below.refl _ _)⟩
set_option maxHeartbeats 1000000 in
set_option maxRecDepth 100000 in
theorem times1_6 (a0 a1 a2 a3 a4 a5 a6 n : Int) (ga gb : Nat) (w : World) (ha : w.heap[ga]? = some (.cells #[.int .i64 a0, .int .i64 a1, .int .i64 a2, .int .i64 a3, .int .i64 a4, .int .i64 a5, .int .i64 a6] 23 (0, 0))) (hb : w.heap[gb]? = some (.cells #[.int .i64 n] 3 (0, 0))) :
    Calls Tryd.prog 68 #[.int .i64 6, .pointer (some ⟨ga, 0, none⟩), .pointer (some ⟨gb, 0, none⟩)] w fun e w' => e = .returned (.int .i64 (wrap64 (a6 * n))) ∧ Below w.heap.size w w' := by
  obtain ⟨x0, x1, x2, x3, x4, x5, x6⟩ := hc7 ha
  have y0 := hc1 hb
  clear ha hb
  go_enter Tryd.func68, Tryd.ntmps68
  go_wp2
  go_region
  all_goals (try go_wp2)
  go_ret
  exact ⟨rfl, bl (Below.refl _ _)⟩
def dims_Add.f (a0_0 a0_1 a0_2 a0_3 a0_4 a0_5 a0_6 a1_0 a1_1 a1_2 a1_3 a1_4 a1_5 a1_6 : Int) : Option D8 := some (eachP (allR [a0_0, a0_1, a0_2, a0_3, a0_4, a0_5, a0_6] && allR [a1_0, a1_1, a1_2, a1_3, a1_4, a1_5, a1_6]) (wrap64 (a0_0 + a1_0)) (wrap64 (a0_1 + a1_1)) (wrap64 (a0_2 + a1_2)) (wrap64 (a0_3 + a1_3)) (wrap64 (a0_4 + a1_4)) (wrap64 (a0_5 + a1_5)) (wrap64 (a0_6 + a1_6)))
set_option maxHeartbeats 4000000 in
set_option maxRecDepth 100000 in
theorem dims_Add.calls (a0_0 a0_1 a0_2 a0_3 a0_4 a0_5 a0_6 a1_0 a1_1 a1_2 a1_3 a1_4 a1_5 a1_6 : Int) (r0 r1 r2 r3 r4 r5 r6 : Int) (r7 : Bool) (w : World) (h : dims_Add.f a0_0 a0_1 a0_2 a0_3 a0_4 a0_5 a0_6 a1_0 a1_1 a1_2 a1_3 a1_4 a1_5 a1_6 = some (r0, r1, r2, r3, r4, r5, r6, r7)) :
    Calls Tryd.prog 31 #[.agg #[.int .i64 a0_0, .int .i64 a0_1, .int .i64 a0_2, .int .i64 a0_3, .int .i64 a0_4, .int .i64 a0_5, .int .i64 a0_6], .agg #[.int .i64 a1_0, .int .i64 a1_1, .int .i64 a1_2, .int .i64 a1_3, .int .i64 a1_4, .int .i64 a1_5, .int .i64 a1_6]] w fun e w' => e = .returned (.tuple #[.agg #[.int .i64 r0, .int .i64 r1, .int .i64 r2, .int .i64 r3, .int .i64 r4, .int .i64 r5, .int .i64 r6], .bool r7]) ∧ Below w.heap.size w w' := by
  have hu := Tryd.underlying23
  have hr := Option.some.inj h
  clear h
  obtain ⟨Ra, hRa⟩ : ∃ R, allR [a0_0, a0_1, a0_2, a0_3, a0_4, a0_5, a0_6] = R := ⟨_, rfl⟩
  obtain ⟨Rb, hRb⟩ : ∃ R, allR [a1_0, a1_1, a1_2, a1_3, a1_4, a1_5, a1_6] = R := ⟨_, rfl⟩
  rw [hRa, hRb] at hr
  have HA : Aside0 (dims_Right.f a0_0 a0_1 a0_2 a0_3 a0_4 a0_5 a0_6 = some Ra) := ⟨by rw [← hRa]; rfl⟩
  have HB_ : Aside0 (dims_Right.f a1_0 a1_1 a1_2 a1_3 a1_4 a1_5 a1_6 = some Rb) := ⟨by rw [← hRb]; rfl⟩
  have HR := Aside0.mk hr
  clear hr hRa hRb
  go_enter Tryd.func31, Tryd.ntmps31
  cases Ra with
  | false =>
    replace HR : Aside0 (eachP false (wrap64 (a0_0 + a1_0)) (wrap64 (a0_1 + a1_1)) (wrap64 (a0_2 + a1_2)) (wrap64 (a0_3 + a1_3)) (wrap64 (a0_4 + a1_4)) (wrap64 (a0_5 + a1_5)) (wrap64 (a0_6 + a1_6)) = (r0, r1, r2, r3, r4, r5, r6, r7)) := ⟨HR.out⟩
    go_wp2_with (first
      | ((with_reducible refine gate_dst (N := 2) rfl ?_); refine box_event ?hg (N := 2) ?hd (cs := #[.int .i64 a0_0, .int .i64 a0_1, .int .i64 a0_2, .int .i64 a0_3, .int .i64 a0_4, .int .i64 a0_5, .int .i64 a0_6]) (t := 23) ?hr ?_; (case hd => rfl); (case hg => rfl); (case hr => first | (go_simp; done) | (go_simp; rfl)); intro ga hg w1 hbox hb; have BA := Aside0.mk hbox; have HB := Aside0.mk hb; have GA := Aside0.mk (bsz (bl (Below.refl _ _)) hg : w.heap.size ≤ ga); clear hbox hb hg)
      | ((with_reducible refine gate_dst (N := 3) rfl ?_); refine box_event ?hg (N := 3) ?hd (cs := #[.int .i64 a1_0, .int .i64 a1_1, .int .i64 a1_2, .int .i64 a1_3, .int .i64 a1_4, .int .i64 a1_5, .int .i64 a1_6]) (t := 23) ?hr ?_; (case hd => rfl); (case hg => rfl); (case hr => first | (go_simp; done) | (go_simp; rfl)); intro gb hg w2 hbox hb; have GB := Aside0.mk (bsz (bl HB.out) hg : w.heap.size ≤ gb); replace BA := Aside0.mk (blk_below (kp BA.out) hb); have BB := Aside0.mk hbox; replace HB := Aside0.mk (below_step (bl HB.out) hb); clear hbox hb hg)
      | ((with_reducible refine gate_dst (N := 4) rfl ?_); refine box_event ?hg (N := 4) ?hd (cs := #[.int .i64 0, .int .i64 0, .int .i64 0, .int .i64 0, .int .i64 0, .int .i64 0, .int .i64 0]) (t := 23) ?hr ?_; (case hd => rfl); (case hg => rfl); (case hr => first | (go_simp; done) | (go_simp; rfl)); intro gr hg w3 hbox hb; have GR := Aside0.mk (bsz (bl HB.out) hg : w.heap.size ≤ gr); replace BA := Aside0.mk (blk_below (kp BA.out) hb); replace BB := Aside0.mk (blk_below (kp BB.out) hb); have BR := Aside0.mk hbox; replace HB := Aside0.mk (below_step (bl HB.out) hb); obtain ⟨x0, x1, x2, x3, x4, x5, x6⟩ := hc7 BA.out; obtain ⟨y0, y1, y2, y3, y4, y5, y6⟩ := hc7 BB.out; clear hbox hb hg)
      | (go_at_call 48; (with_reducible refine (dims_Right.calls a0_0 a0_1 a0_2 a0_3 a0_4 a0_5 a0_6 false _ HA.out).mono ?_); rintro e wa ⟨rfl, hb⟩; replace BA := Aside0.mk (blk_below (kp BA.out) hb); replace BB := Aside0.mk (blk_below (kp BB.out) hb); replace BR := Aside0.mk (blk_below (kp BR.out) hb); replace HB := Aside0.mk (below_step (bl HB.out) hb); clear hb x0 x1 x2 x3 x4 x5 x6 y0 y1 y2 y3 y4 y5 y6; obtain ⟨x0, x1, x2, x3, x4, x5, x6⟩ := hc7 BA.out; obtain ⟨y0, y1, y2, y3, y4, y5, y6⟩ := hc7 BB.out; clear HA)
      | (go_at_call 61; (with_reducible refine (each29_calls false _ _ (wrap64 (a0_0 + a1_0)) (wrap64 (a0_1 + a1_1)) (wrap64 (a0_2 + a1_2)) (wrap64 (a0_3 + a1_3)) (wrap64 (a0_4 + a1_4)) (wrap64 (a0_5 + a1_5)) (wrap64 (a0_6 + a1_6)) _ (fun W hW => ⟨add1_0 a0_0 a0_1 a0_2 a0_3 a0_4 a0_5 a0_6 a1_0 a1_1 a1_2 a1_3 a1_4 a1_5 a1_6 ga gb W (blk_below (kp BA.out) hW) (blk_below (kp BB.out) hW), add1_1 a0_0 a0_1 a0_2 a0_3 a0_4 a0_5 a0_6 a1_0 a1_1 a1_2 a1_3 a1_4 a1_5 a1_6 ga gb W (blk_below (kp BA.out) hW) (blk_below (kp BB.out) hW), add1_2 a0_0 a0_1 a0_2 a0_3 a0_4 a0_5 a0_6 a1_0 a1_1 a1_2 a1_3 a1_4 a1_5 a1_6 ga gb W (blk_below (kp BA.out) hW) (blk_below (kp BB.out) hW), add1_3 a0_0 a0_1 a0_2 a0_3 a0_4 a0_5 a0_6 a1_0 a1_1 a1_2 a1_3 a1_4 a1_5 a1_6 ga gb W (blk_below (kp BA.out) hW) (blk_below (kp BB.out) hW), add1_4 a0_0 a0_1 a0_2 a0_3 a0_4 a0_5 a0_6 a1_0 a1_1 a1_2 a1_3 a1_4 a1_5 a1_6 ga gb W (blk_below (kp BA.out) hW) (blk_below (kp BB.out) hW), add1_5 a0_0 a0_1 a0_2 a0_3 a0_4 a0_5 a0_6 a1_0 a1_1 a1_2 a1_3 a1_4 a1_5 a1_6 ga gb W (blk_below (kp BA.out) hW) (blk_below (kp BB.out) hW), add1_6 a0_0 a0_1 a0_2 a0_3 a0_4 a0_5 a0_6 a1_0 a1_1 a1_2 a1_3 a1_4 a1_5 a1_6 ga gb W (blk_below (kp BA.out) hW) (blk_below (kp BB.out) hW)⟩) r0 r1 r2 r3 r4 r5 r6 r7 HR.out).mono ?_); rintro e wc ⟨rfl, hb⟩; replace BA := Aside0.mk (blk_below (kp BA.out) hb); replace BB := Aside0.mk (blk_below (kp BB.out) hb); replace BR := Aside0.mk (blk_below (kp BR.out) hb); replace HB := Aside0.mk (below_step (bl HB.out) hb); clear hb x0 x1 x2 x3 x4 x5 x6 y0 y1 y2 y3 y4 y5 y6; obtain ⟨q0, q1, q2, q3, q4, q5, q6⟩ := hc7 BR.out; obtain ⟨s0, s1, s2, s3, s4, s5, s6⟩ := hf7 BR.out; clear HR))
    refine bodyPost_ret (results_ct rfl _ _ gr 23 #[.int .i64 r0, .int .i64 r1, .int .i64 r2, .int .i64 r3, .int .i64 r4, .int .i64 r5, .int .i64 r6] (0, 0) _ rfl (kp (p7_6 (kp (p7_5 (kp (p7_4 (kp (p7_3 (kp (p7_2 (kp (p7_1 (kp (p7_0 (kp BR.out))))))))))))))) hu rfl (by kernel_rfl)) rfl ?_
    exact ⟨rfl, bl HB.out⟩
  | true =>
    cases Rb with
    | false =>
      replace HR : Aside0 (eachP false (wrap64 (a0_0 + a1_0)) (wrap64 (a0_1 + a1_1)) (wrap64 (a0_2 + a1_2)) (wrap64 (a0_3 + a1_3)) (wrap64 (a0_4 + a1_4)) (wrap64 (a0_5 + a1_5)) (wrap64 (a0_6 + a1_6)) = (r0, r1, r2, r3, r4, r5, r6, r7)) := ⟨HR.out⟩
      go_wp2_with (first
        | ((with_reducible refine gate_dst (N := 2) rfl ?_); refine box_event ?hg (N := 2) ?hd (cs := #[.int .i64 a0_0, .int .i64 a0_1, .int .i64 a0_2, .int .i64 a0_3, .int .i64 a0_4, .int .i64 a0_5, .int .i64 a0_6]) (t := 23) ?hr ?_; (case hd => rfl); (case hg => rfl); (case hr => first | (go_simp; done) | (go_simp; rfl)); intro ga hg w1 hbox hb; have BA := Aside0.mk hbox; have HB := Aside0.mk hb; have GA := Aside0.mk (bsz (bl (Below.refl _ _)) hg : w.heap.size ≤ ga); clear hbox hb hg)
        | ((with_reducible refine gate_dst (N := 3) rfl ?_); refine box_event ?hg (N := 3) ?hd (cs := #[.int .i64 a1_0, .int .i64 a1_1, .int .i64 a1_2, .int .i64 a1_3, .int .i64 a1_4, .int .i64 a1_5, .int .i64 a1_6]) (t := 23) ?hr ?_; (case hd => rfl); (case hg => rfl); (case hr => first | (go_simp; done) | (go_simp; rfl)); intro gb hg w2 hbox hb; have GB := Aside0.mk (bsz (bl HB.out) hg : w.heap.size ≤ gb); replace BA := Aside0.mk (blk_below (kp BA.out) hb); have BB := Aside0.mk hbox; replace HB := Aside0.mk (below_step (bl HB.out) hb); clear hbox hb hg)
        | ((with_reducible refine gate_dst (N := 4) rfl ?_); refine box_event ?hg (N := 4) ?hd (cs := #[.int .i64 0, .int .i64 0, .int .i64 0, .int .i64 0, .int .i64 0, .int .i64 0, .int .i64 0]) (t := 23) ?hr ?_; (case hd => rfl); (case hg => rfl); (case hr => first | (go_simp; done) | (go_simp; rfl)); intro gr hg w3 hbox hb; have GR := Aside0.mk (bsz (bl HB.out) hg : w.heap.size ≤ gr); replace BA := Aside0.mk (blk_below (kp BA.out) hb); replace BB := Aside0.mk (blk_below (kp BB.out) hb); have BR := Aside0.mk hbox; replace HB := Aside0.mk (below_step (bl HB.out) hb); obtain ⟨x0, x1, x2, x3, x4, x5, x6⟩ := hc7 BA.out; obtain ⟨y0, y1, y2, y3, y4, y5, y6⟩ := hc7 BB.out; clear hbox hb hg)
        | (go_at_call 48; (with_reducible refine (dims_Right.calls a0_0 a0_1 a0_2 a0_3 a0_4 a0_5 a0_6 true _ HA.out).mono ?_); rintro e wa ⟨rfl, hb⟩; replace BA := Aside0.mk (blk_below (kp BA.out) hb); replace BB := Aside0.mk (blk_below (kp BB.out) hb); replace BR := Aside0.mk (blk_below (kp BR.out) hb); replace HB := Aside0.mk (below_step (bl HB.out) hb); clear hb x0 x1 x2 x3 x4 x5 x6 y0 y1 y2 y3 y4 y5 y6; obtain ⟨x0, x1, x2, x3, x4, x5, x6⟩ := hc7 BA.out; obtain ⟨y0, y1, y2, y3, y4, y5, y6⟩ := hc7 BB.out; clear HA)
        | (go_at_call 48; (with_reducible refine (dims_Right.calls a1_0 a1_1 a1_2 a1_3 a1_4 a1_5 a1_6 false _ HB_.out).mono ?_); rintro e wb ⟨rfl, hb⟩; replace BA := Aside0.mk (blk_below (kp BA.out) hb); replace BB := Aside0.mk (blk_below (kp BB.out) hb); replace BR := Aside0.mk (blk_below (kp BR.out) hb); replace HB := Aside0.mk (below_step (bl HB.out) hb); clear hb x0 x1 x2 x3 x4 x5 x6 y0 y1 y2 y3 y4 y5 y6; obtain ⟨x0, x1, x2, x3, x4, x5, x6⟩ := hc7 BA.out; obtain ⟨y0, y1, y2, y3, y4, y5, y6⟩ := hc7 BB.out; clear HB_)
        | (go_at_call 61; (with_reducible refine (each29_calls false _ _ (wrap64 (a0_0 + a1_0)) (wrap64 (a0_1 + a1_1)) (wrap64 (a0_2 + a1_2)) (wrap64 (a0_3 + a1_3)) (wrap64 (a0_4 + a1_4)) (wrap64 (a0_5 + a1_5)) (wrap64 (a0_6 + a1_6)) _ (fun W hW => ⟨add1_0 a0_0 a0_1 a0_2 a0_3 a0_4 a0_5 a0_6 a1_0 a1_1 a1_2 a1_3 a1_4 a1_5 a1_6 ga gb W (blk_below (kp BA.out) hW) (blk_below (kp BB.out) hW), add1_1 a0_0 a0_1 a0_2 a0_3 a0_4 a0_5 a0_6 a1_0 a1_1 a1_2 a1_3 a1_4 a1_5 a1_6 ga gb W (blk_below (kp BA.out) hW) (blk_below (kp BB.out) hW), add1_2 a0_0 a0_1 a0_2 a0_3 a0_4 a0_5 a0_6 a1_0 a1_1 a1_2 a1_3 a1_4 a1_5 a1_6 ga gb W (blk_below (kp BA.out) hW) (blk_below (kp BB.out) hW), add1_3 a0_0 a0_1 a0_2 a0_3 a0_4 a0_5 a0_6 a1_0 a1_1 a1_2 a1_3 a1_4 a1_5 a1_6 ga gb W (blk_below (kp BA.out) hW) (blk_below (kp BB.out) hW), add1_4 a0_0 a0_1 a0_2 a0_3 a0_4 a0_5 a0_6 a1_0 a1_1 a1_2 a1_3 a1_4 a1_5 a1_6 ga gb W (blk_below (kp BA.out) hW) (blk_below (kp BB.out) hW), add1_5 a0_0 a0_1 a0_2 a0_3 a0_4 a0_5 a0_6 a1_0 a1_1 a1_2 a1_3 a1_4 a1_5 a1_6 ga gb W (blk_below (kp BA.out) hW) (blk_below (kp BB.out) hW), add1_6 a0_0 a0_1 a0_2 a0_3 a0_4 a0_5 a0_6 a1_0 a1_1 a1_2 a1_3 a1_4 a1_5 a1_6 ga gb W (blk_below (kp BA.out) hW) (blk_below (kp BB.out) hW)⟩) r0 r1 r2 r3 r4 r5 r6 r7 HR.out).mono ?_); rintro e wc ⟨rfl, hb⟩; replace BA := Aside0.mk (blk_below (kp BA.out) hb); replace BB := Aside0.mk (blk_below (kp BB.out) hb); replace BR := Aside0.mk (blk_below (kp BR.out) hb); replace HB := Aside0.mk (below_step (bl HB.out) hb); clear hb x0 x1 x2 x3 x4 x5 x6 y0 y1 y2 y3 y4 y5 y6; obtain ⟨q0, q1, q2, q3, q4, q5, q6⟩ := hc7 BR.out; obtain ⟨s0, s1, s2, s3, s4, s5, s6⟩ := hf7 BR.out; clear HR))
      refine bodyPost_ret (results_ct rfl _ _ gr 23 #[.int .i64 r0, .int .i64 r1, .int .i64 r2, .int .i64 r3, .int .i64 r4, .int .i64 r5, .int .i64 r6] (0, 0) _ rfl (kp (p7_6 (kp (p7_5 (kp (p7_4 (kp (p7_3 (kp (p7_2 (kp (p7_1 (kp (p7_0 (kp BR.out))))))))))))))) hu rfl (by kernel_rfl)) rfl ?_
      exact ⟨rfl, bl HB.out⟩
    | true =>
      replace HR : Aside0 (eachP true (wrap64 (a0_0 + a1_0)) (wrap64 (a0_1 + a1_1)) (wrap64 (a0_2 + a1_2)) (wrap64 (a0_3 + a1_3)) (wrap64 (a0_4 + a1_4)) (wrap64 (a0_5 + a1_5)) (wrap64 (a0_6 + a1_6)) = (r0, r1, r2, r3, r4, r5, r6, r7)) := ⟨HR.out⟩
      go_wp2_with (first
        | ((with_reducible refine gate_dst (N := 2) rfl ?_); refine box_event ?hg (N := 2) ?hd (cs := #[.int .i64 a0_0, .int .i64 a0_1, .int .i64 a0_2, .int .i64 a0_3, .int .i64 a0_4, .int .i64 a0_5, .int .i64 a0_6]) (t := 23) ?hr ?_; (case hd => rfl); (case hg => rfl); (case hr => first | (go_simp; done) | (go_simp; rfl)); intro ga hg w1 hbox hb; have BA := Aside0.mk hbox; have HB := Aside0.mk hb; have GA := Aside0.mk (bsz (bl (Below.refl _ _)) hg : w.heap.size ≤ ga); clear hbox hb hg)
        | ((with_reducible refine gate_dst (N := 3) rfl ?_); refine box_event ?hg (N := 3) ?hd (cs := #[.int .i64 a1_0, .int .i64 a1_1, .int .i64 a1_2, .int .i64 a1_3, .int .i64 a1_4, .int .i64 a1_5, .int .i64 a1_6]) (t := 23) ?hr ?_; (case hd => rfl); (case hg => rfl); (case hr => first | (go_simp; done) | (go_simp; rfl)); intro gb hg w2 hbox hb; have GB := Aside0.mk (bsz (bl HB.out) hg : w.heap.size ≤ gb); replace BA := Aside0.mk (blk_below (kp BA.out) hb); have BB := Aside0.mk hbox; replace HB := Aside0.mk (below_step (bl HB.out) hb); clear hbox hb hg)
        | ((with_reducible refine gate_dst (N := 4) rfl ?_); refine box_event ?hg (N := 4) ?hd (cs := #[.int .i64 0, .int .i64 0, .int .i64 0, .int .i64 0, .int .i64 0, .int .i64 0, .int .i64 0]) (t := 23) ?hr ?_; (case hd => rfl); (case hg => rfl); (case hr => first | (go_simp; done) | (go_simp; rfl)); intro gr hg w3 hbox hb; have GR := Aside0.mk (bsz (bl HB.out) hg : w.heap.size ≤ gr); replace BA := Aside0.mk (blk_below (kp BA.out) hb); replace BB := Aside0.mk (blk_below (kp BB.out) hb); have BR := Aside0.mk hbox; replace HB := Aside0.mk (below_step (bl HB.out) hb); obtain ⟨x0, x1, x2, x3, x4, x5, x6⟩ := hc7 BA.out; obtain ⟨y0, y1, y2, y3, y4, y5, y6⟩ := hc7 BB.out; clear hbox hb hg)
        | (go_at_call 48; (with_reducible refine (dims_Right.calls a0_0 a0_1 a0_2 a0_3 a0_4 a0_5 a0_6 true _ HA.out).mono ?_); rintro e wa ⟨rfl, hb⟩; replace BA := Aside0.mk (blk_below (kp BA.out) hb); replace BB := Aside0.mk (blk_below (kp BB.out) hb); replace BR := Aside0.mk (blk_below (kp BR.out) hb); replace HB := Aside0.mk (below_step (bl HB.out) hb); clear hb x0 x1 x2 x3 x4 x5 x6 y0 y1 y2 y3 y4 y5 y6; obtain ⟨x0, x1, x2, x3, x4, x5, x6⟩ := hc7 BA.out; obtain ⟨y0, y1, y2, y3, y4, y5, y6⟩ := hc7 BB.out; clear HA)
        | (go_at_call 48; (with_reducible refine (dims_Right.calls a1_0 a1_1 a1_2 a1_3 a1_4 a1_5 a1_6 true _ HB_.out).mono ?_); rintro e wb ⟨rfl, hb⟩; replace BA := Aside0.mk (blk_below (kp BA.out) hb); replace BB := Aside0.mk (blk_below (kp BB.out) hb); replace BR := Aside0.mk (blk_below (kp BR.out) hb); replace HB := Aside0.mk (below_step (bl HB.out) hb); clear hb x0 x1 x2 x3 x4 x5 x6 y0 y1 y2 y3 y4 y5 y6; obtain ⟨x0, x1, x2, x3, x4, x5, x6⟩ := hc7 BA.out; obtain ⟨y0, y1, y2, y3, y4, y5, y6⟩ := hc7 BB.out; clear HB_)
        | (go_at_call 61; (with_reducible refine (each29_calls true _ _ (wrap64 (a0_0 + a1_0)) (wrap64 (a0_1 + a1_1)) (wrap64 (a0_2 + a1_2)) (wrap64 (a0_3 + a1_3)) (wrap64 (a0_4 + a1_4)) (wrap64 (a0_5 + a1_5)) (wrap64 (a0_6 + a1_6)) _ (fun W hW => ⟨add1_0 a0_0 a0_1 a0_2 a0_3 a0_4 a0_5 a0_6 a1_0 a1_1 a1_2 a1_3 a1_4 a1_5 a1_6 ga gb W (blk_below (kp BA.out) hW) (blk_below (kp BB.out) hW), add1_1 a0_0 a0_1 a0_2 a0_3 a0_4 a0_5 a0_6 a1_0 a1_1 a1_2 a1_3 a1_4 a1_5 a1_6 ga gb W (blk_below (kp BA.out) hW) (blk_below (kp BB.out) hW), add1_2 a0_0 a0_1 a0_2 a0_3 a0_4 a0_5 a0_6 a1_0 a1_1 a1_2 a1_3 a1_4 a1_5 a1_6 ga gb W (blk_below (kp BA.out) hW) (blk_below (kp BB.out) hW), add1_3 a0_0 a0_1 a0_2 a0_3 a0_4 a0_5 a0_6 a1_0 a1_1 a1_2 a1_3 a1_4 a1_5 a1_6 ga gb W (blk_below (kp BA.out) hW) (blk_below (kp BB.out) hW), add1_4 a0_0 a0_1 a0_2 a0_3 a0_4 a0_5 a0_6 a1_0 a1_1 a1_2 a1_3 a1_4 a1_5 a1_6 ga gb W (blk_below (kp BA.out) hW) (blk_below (kp BB.out) hW), add1_5 a0_0 a0_1 a0_2 a0_3 a0_4 a0_5 a0_6 a1_0 a1_1 a1_2 a1_3 a1_4 a1_5 a1_6 ga gb W (blk_below (kp BA.out) hW) (blk_below (kp BB.out) hW), add1_6 a0_0 a0_1 a0_2 a0_3 a0_4 a0_5 a0_6 a1_0 a1_1 a1_2 a1_3 a1_4 a1_5 a1_6 ga gb W (blk_below (kp BA.out) hW) (blk_below (kp BB.out) hW)⟩) r0 r1 r2 r3 r4 r5 r6 r7 HR.out).mono ?_); rintro e wc ⟨rfl, hb⟩; replace BA := Aside0.mk (blk_below (kp BA.out) hb); replace BB := Aside0.mk (blk_below (kp BB.out) hb); replace BR := Aside0.mk (blk_below (kp BR.out) hb); replace HB := Aside0.mk (below_step (bl HB.out) hb); clear hb x0 x1 x2 x3 x4 x5 x6 y0 y1 y2 y3 y4 y5 y6; obtain ⟨q0, q1, q2, q3, q4, q5, q6⟩ := hc7 BR.out; obtain ⟨s0, s1, s2, s3, s4, s5, s6⟩ := hf7 BR.out; clear HR))
      refine bodyPost_ret (results_ct rfl _ _ gr 23 #[.int .i64 r0, .int .i64 r1, .int .i64 r2, .int .i64 r3, .int .i64 r4, .int .i64 r5, .int .i64 r6] (0, 0) _ rfl (kp (p7_6 (kp (p7_5 (kp (p7_4 (kp (p7_3 (kp (p7_2 (kp (p7_1 (kp (p7_0 (kp BR.out))))))))))))))) hu rfl (by kernel_rfl)) rfl ?_
      exact ⟨rfl, bl HB.out⟩
def dims_Sub.f (a0_0 a0_1 a0_2 a0_3 a0_4 a0_5 a0_6 a1_0 a1_1 a1_2 a1_3 a1_4 a1_5 a1_6 : Int) : Option D8 := some (eachP (allR [a0_0, a0_1, a0_2, a0_3, a0_4, a0_5, a0_6] && allR [a1_0, a1_1, a1_2, a1_3, a1_4, a1_5, a1_6]) (wrap64 (a0_0 - a1_0)) (wrap64 (a0_1 - a1_1)) (wrap64 (a0_2 - a1_2)) (wrap64 (a0_3 - a1_3)) (wrap64 (a0_4 - a1_4)) (wrap64 (a0_5 - a1_5)) (wrap64 (a0_6 - a1_6)))
set_option maxHeartbeats 4000000 in
set_option maxRecDepth 100000 in
theorem dims_Sub.calls (a0_0 a0_1 a0_2 a0_3 a0_4 a0_5 a0_6 a1_0 a1_1 a1_2 a1_3 a1_4 a1_5 a1_6 : Int) (r0 r1 r2 r3 r4 r5 r6 : Int) (r7 : Bool) (w : World) (h : dims_Sub.f a0_0 a0_1 a0_2 a0_3 a0_4 a0_5 a0_6 a1_0 a1_1 a1_2 a1_3 a1_4 a1_5 a1_6 = some (r0, r1, r2, r3, r4, r5, r6, r7)) :
    Calls Tryd.prog 35 #[.agg #[.int .i64 a0_0, .int .i64 a0_1, .int .i64 a0_2, .int .i64 a0_3, .int .i64 a0_4, .int .i64 a0_5, .int .i64 a0_6], .agg #[.int .i64 a1_0, .int .i64 a1_1, .int .i64 a1_2, .int .i64 a1_3, .int .i64 a1_4, .int .i64 a1_5, .int .i64 a1_6]] w fun e w' => e = .returned (.tuple #[.agg #[.int .i64 r0, .int .i64 r1, .int .i64 r2, .int .i64 r3, .int .i64 r4, .int .i64 r5, .int .i64 r6], .bool r7]) ∧ Below w.heap.size w w' := by
  have hu := Tryd.underlying23
  have hr := Option.some.inj h
  clear h
  obtain ⟨Ra, hRa⟩ : ∃ R, allR [a0_0, a0_1, a0_2, a0_3, a0_4, a0_5, a0_6] = R := ⟨_, rfl⟩
  obtain ⟨Rb, hRb⟩ : ∃ R, allR [a1_0, a1_1, a1_2, a1_3, a1_4, a1_5, a1_6] = R := ⟨_, rfl⟩
  rw [hRa, hRb] at hr
  have HA : Aside0 (dims_Right.f a0_0 a0_1 a0_2 a0_3 a0_4 a0_5 a0_6 = some Ra) := ⟨by rw [← hRa]; rfl⟩
  have HB_ : Aside0 (dims_Right.f a1_0 a1_1 a1_2 a1_3 a1_4 a1_5 a1_6 = some Rb) := ⟨by rw [← hRb]; rfl⟩
  have HR := Aside0.mk hr
  clear hr hRa hRb
  go_enter Tryd.func35, Tryd.ntmps35
  cases Ra with
  | false =>
    replace HR : Aside0 (eachP false (wrap64 (a0_0 - a1_0)) (wrap64 (a0_1 - a1_1)) (wrap64 (a0_2 - a1_2)) (wrap64 (a0_3 - a1_3)) (wrap64 (a0_4 - a1_4)) (wrap64 (a0_5 - a1_5)) (wrap64 (a0_6 - a1_6)) = (r0, r1, r2, r3, r4, r5, r6, r7)) := ⟨HR.out⟩
    go_wp2_with (first
      | ((with_reducible refine gate_dst (N := 2) rfl ?_); refine box_event ?hg (N := 2) ?hd (cs := #[.int .i64 a0_0, .int .i64 a0_1, .int .i64 a0_2, .int .i64 a0_3, .int .i64 a0_4, .int .i64 a0_5, .int .i64 a0_6]) (t := 23) ?hr ?_; (case hd => rfl); (case hg => rfl); (case hr => first | (go_simp; done) | (go_simp; rfl)); intro ga hg w1 hbox hb; have BA := Aside0.mk hbox; have HB := Aside0.mk hb; have GA := Aside0.mk (bsz (bl (Below.refl _ _)) hg : w.heap.size ≤ ga); clear hbox hb hg)
      | ((with_reducible refine gate_dst (N := 3) rfl ?_); refine box_event ?hg (N := 3) ?hd (cs := #[.int .i64 a1_0, .int .i64 a1_1, .int .i64 a1_2, .int .i64 a1_3, .int .i64 a1_4, .int .i64 a1_5, .int .i64 a1_6]) (t := 23) ?hr ?_; (case hd => rfl); (case hg => rfl); (case hr => first | (go_simp; done) | (go_simp; rfl)); intro gb hg w2 hbox hb; have GB := Aside0.mk (bsz (bl HB.out) hg : w.heap.size ≤ gb); replace BA := Aside0.mk (blk_below (kp BA.out) hb); have BB := Aside0.mk hbox; replace HB := Aside0.mk (below_step (bl HB.out) hb); clear hbox hb hg)
      | ((with_reducible refine gate_dst (N := 4) rfl ?_); refine box_event ?hg (N := 4) ?hd (cs := #[.int .i64 0, .int .i64 0, .int .i64 0, .int .i64 0, .int .i64 0, .int .i64 0, .int .i64 0]) (t := 23) ?hr ?_; (case hd => rfl); (case hg => rfl); (case hr => first | (go_simp; done) | (go_simp; rfl)); intro gr hg w3 hbox hb; have GR := Aside0.mk (bsz (bl HB.out) hg : w.heap.size ≤ gr); replace BA := Aside0.mk (blk_below (kp BA.out) hb); replace BB := Aside0.mk (blk_below (kp BB.out) hb); have BR := Aside0.mk hbox; replace HB := Aside0.mk (below_step (bl HB.out) hb); obtain ⟨x0, x1, x2, x3, x4, x5, x6⟩ := hc7 BA.out; obtain ⟨y0, y1, y2, y3, y4, y5, y6⟩ := hc7 BB.out; clear hbox hb hg)
      | (go_at_call 48; (with_reducible refine (dims_Right.calls a0_0 a0_1 a0_2 a0_3 a0_4 a0_5 a0_6 false _ HA.out).mono ?_); rintro e wa ⟨rfl, hb⟩; replace BA := Aside0.mk (blk_below (kp BA.out) hb); replace BB := Aside0.mk (blk_below (kp BB.out) hb); replace BR := Aside0.mk (blk_below (kp BR.out) hb); replace HB := Aside0.mk (below_step (bl HB.out) hb); clear hb x0 x1 x2 x3 x4 x5 x6 y0 y1 y2 y3 y4 y5 y6; obtain ⟨x0, x1, x2, x3, x4, x5, x6⟩ := hc7 BA.out; obtain ⟨y0, y1, y2, y3, y4, y5, y6⟩ := hc7 BB.out; clear HA)
      | (go_at_call 61; (with_reducible refine (each34_calls false _ _ (wrap64 (a0_0 - a1_0)) (wrap64 (a0_1 - a1_1)) (wrap64 (a0_2 - a1_2)) (wrap64 (a0_3 - a1_3)) (wrap64 (a0_4 - a1_4)) (wrap64 (a0_5 - a1_5)) (wrap64 (a0_6 - a1_6)) _ (fun W hW => ⟨sub1_0 a0_0 a0_1 a0_2 a0_3 a0_4 a0_5 a0_6 a1_0 a1_1 a1_2 a1_3 a1_4 a1_5 a1_6 ga gb W (blk_below (kp BA.out) hW) (blk_below (kp BB.out) hW), sub1_1 a0_0 a0_1 a0_2 a0_3 a0_4 a0_5 a0_6 a1_0 a1_1 a1_2 a1_3 a1_4 a1_5 a1_6 ga gb W (blk_below (kp BA.out) hW) (blk_below (kp BB.out) hW), sub1_2 a0_0 a0_1 a0_2 a0_3 a0_4 a0_5 a0_6 a1_0 a1_1 a1_2 a1_3 a1_4 a1_5 a1_6 ga gb W (blk_below (kp BA.out) hW) (blk_below (kp BB.out) hW), sub1_3 a0_0 a0_1 a0_2 a0_3 a0_4 a0_5 a0_6 a1_0 a1_1 a1_2 a1_3 a1_4 a1_5 a1_6 ga gb W (blk_below (kp BA.out) hW) (blk_below (kp BB.out) hW), sub1_4 a0_0 a0_1 a0_2 a0_3 a0_4 a0_5 a0_6 a1_0 a1_1 a1_2 a1_3 a1_4 a1_5 a1_6 ga gb W (blk_below (kp BA.out) hW) (blk_below (kp BB.out) hW), sub1_5 a0_0 a0_1 a0_2 a0_3 a0_4 a0_5 a0_6 a1_0 a1_1 a1_2 a1_3 a1_4 a1_5 a1_6 ga gb W (blk_below (kp BA.out) hW) (blk_below (kp BB.out) hW), sub1_6 a0_0 a0_1 a0_2 a0_3 a0_4 a0_5 a0_6 a1_0 a1_1 a1_2 a1_3 a1_4 a1_5 a1_6 ga gb W (blk_below (kp BA.out) hW) (blk_below (kp BB.out) hW)⟩) r0 r1 r2 r3 r4 r5 r6 r7 HR.out).mono ?_); rintro e wc ⟨rfl, hb⟩; replace BA := Aside0.mk (blk_below (kp BA.out) hb); replace BB := Aside0.mk (blk_below (kp BB.out) hb); replace BR := Aside0.mk (blk_below (kp BR.out) hb); replace HB := Aside0.mk (below_step (bl HB.out) hb); clear hb x0 x1 x2 x3 x4 x5 x6 y0 y1 y2 y3 y4 y5 y6; obtain ⟨q0, q1, q2, q3, q4, q5, q6⟩ := hc7 BR.out; obtain ⟨s0, s1, s2, s3, s4, s5, s6⟩ := hf7 BR.out; clear HR))
    refine bodyPost_ret (results_ct rfl _ _ gr 23 #[.int .i64 r0, .int .i64 r1, .int .i64 r2, .int .i64 r3, .int .i64 r4, .int .i64 r5, .int .i64 r6] (0, 0) _ rfl (kp (p7_6 (kp (p7_5 (kp (p7_4 (kp (p7_3 (kp (p7_2 (kp (p7_1 (kp (p7_0 (kp BR.out))))))))))))))) hu rfl (by kernel_rfl)) rfl ?_
    exact ⟨rfl, bl HB.out⟩
  | true =>
    cases Rb with
    | false =>
      replace HR : Aside0 (eachP false (wrap64 (a0_0 - a1_0)) (wrap64 (a0_1 - a1_1)) (wrap64 (a0_2 - a1_2)) (wrap64 (a0_3 - a1_3)) (wrap64 (a0_4 - a1_4)) (wrap64 (a0_5 - a1_5)) (wrap64 (a0_6 - a1_6)) = (r0, r1, r2, r3, r4, r5, r6, r7)) := ⟨HR.out⟩
      go_wp2_with (first
        | ((with_reducible refine gate_dst (N := 2) rfl ?_); refine box_event ?hg (N := 2) ?hd (cs := #[.int .i64 a0_0, .int .i64 a0_1, .int .i64 a0_2, .int .i64 a0_3, .int .i64 a0_4, .int .i64 a0_5, .int .i64 a0_6]) (t := 23) ?hr ?_; (case hd => rfl); (case hg => rfl); (case hr => first | (go_simp; done) | (go_simp; rfl)); intro ga hg w1 hbox hb; have BA := Aside0.mk hbox; have HB := Aside0.mk hb; have GA := Aside0.mk (bsz (bl (Below.refl _ _)) hg : w.heap.size ≤ ga); clear hbox hb hg)
        | ((with_reducible refine gate_dst (N := 3) rfl ?_); refine box_event ?hg (N := 3) ?hd (cs := #[.int .i64 a1_0, .int .i64 a1_1, .int .i64 a1_2, .int .i64 a1_3, .int .i64 a1_4, .int .i64 a1_5, .int .i64 a1_6]) (t := 23) ?hr ?_; (case hd => rfl); (case hg => rfl); (case hr => first | (go_simp; done) | (go_simp; rfl)); intro gb hg w2 hbox hb; have GB := Aside0.mk (bsz (bl HB.out) hg : w.heap.size ≤ gb); replace BA := Aside0.mk (blk_below (kp BA.out) hb); have BB := Aside0.mk hbox; replace HB := Aside0.mk (below_step (bl HB.out) hb); clear hbox hb hg)
        | ((with_reducible refine gate_dst (N := 4) rfl ?_); refine box_event ?hg (N := 4) ?hd (cs := #[.int .i64 0, .int .i64 0, .int .i64 0, .int .i64 0, .int .i64 0, .int .i64 0, .int .i64 0]) (t := 23) ?hr ?_; (case hd => rfl); (case hg => rfl); (case hr => first | (go_simp; done) | (go_simp; rfl)); intro gr hg w3 hbox hb; have GR := Aside0.mk (bsz (bl HB.out) hg : w.heap.size ≤ gr); replace BA := Aside0.mk (blk_below (kp BA.out) hb); replace BB := Aside0.mk (blk_below (kp BB.out) hb); have BR := Aside0.mk hbox; replace HB := Aside0.mk (below_step (bl HB.out) hb); obtain ⟨x0, x1, x2, x3, x4, x5, x6⟩ := hc7 BA.out; obtain ⟨y0, y1, y2, y3, y4, y5, y6⟩ := hc7 BB.out; clear hbox hb hg)
        | (go_at_call 48; (with_reducible refine (dims_Right.calls a0_0 a0_1 a0_2 a0_3 a0_4 a0_5 a0_6 true _ HA.out).mono ?_); rintro e wa ⟨rfl, hb⟩; replace BA := Aside0.mk (blk_below (kp BA.out) hb); replace BB := Aside0.mk (blk_below (kp BB.out) hb); replace BR := Aside0.mk (blk_below (kp BR.out) hb); replace HB := Aside0.mk (below_step (bl HB.out) hb); clear hb x0 x1 x2 x3 x4 x5 x6 y0 y1 y2 y3 y4 y5 y6; obtain ⟨x0, x1, x2, x3, x4, x5, x6⟩ := hc7 BA.out; obtain ⟨y0, y1, y2, y3, y4, y5, y6⟩ := hc7 BB.out; clear HA)
        | (go_at_call 48; (with_reducible refine (dims_Right.calls a1_0 a1_1 a1_2 a1_3 a1_4 a1_5 a1_6 false _ HB_.out).mono ?_); rintro e wb ⟨rfl, hb⟩; replace BA := Aside0.mk (blk_below (kp BA.out) hb); replace BB := Aside0.mk (blk_below (kp BB.out) hb); replace BR := Aside0.mk (blk_below (kp BR.out) hb); replace HB := Aside0.mk (below_step (bl HB.out) hb); clear hb x0 x1 x2 x3 x4 x5 x6 y0 y1 y2 y3 y4 y5 y6; obtain ⟨x0, x1, x2, x3, x4, x5, x6⟩ := hc7 BA.out; obtain ⟨y0, y1, y2, y3, y4, y5, y6⟩ := hc7 BB.out; clear HB_)
        | (go_at_call 61; (with_reducible refine (each34_calls false _ _ (wrap64 (a0_0 - a1_0)) (wrap64 (a0_1 - a1_1)) (wrap64 (a0_2 - a1_2)) (wrap64 (a0_3 - a1_3)) (wrap64 (a0_4 - a1_4)) (wrap64 (a0_5 - a1_5)) (wrap64 (a0_6 - a1_6)) _ (fun W hW => ⟨sub1_0 a0_0 a0_1 a0_2 a0_3 a0_4 a0_5 a0_6 a1_0 a1_1 a1_2 a1_3 a1_4 a1_5 a1_6 ga gb W (blk_below (kp BA.out) hW) (blk_below (kp BB.out) hW), sub1_1 a0_0 a0_1 a0_2 a0_3 a0_4 a0_5 a0_6 a1_0 a1_1 a1_2 a1_3 a1_4 a1_5 a1_6 ga gb W (blk_below (kp BA.out) hW) (blk_below (kp BB.out) hW), sub1_2 a0_0 a0_1 a0_2 a0_3 a0_4 a0_5 a0_6 a1_0 a1_1 a1_2 a1_3 a1_4 a1_5 a1_6 ga gb W (blk_below (kp BA.out) hW) (blk_below (kp BB.out) hW), sub1_3 a0_0 a0_1 a0_2 a0_3 a0_4 a0_5 a0_6 a1_0 a1_1 a1_2 a1_3 a1_4 a1_5 a1_6 ga gb W (blk_below (kp BA.out) hW) (blk_below (kp BB.out) hW), sub1_4 a0_0 a0_1 a0_2 a0_3 a0_4 a0_5 a0_6 a1_0 a1_1 a1_2 a1_3 a1_4 a1_5 a1_6 ga gb W (blk_below (kp BA.out) hW) (blk_below (kp BB.out) hW), sub1_5 a0_0 a0_1 a0_2 a0_3 a0_4 a0_5 a0_6 a1_0 a1_1 a1_2 a1_3 a1_4 a1_5 a1_6 ga gb W (blk_below (kp BA.out) hW) (blk_below (kp BB.out) hW), sub1_6 a0_0 a0_1 a0_2 a0_3 a0_4 a0_5 a0_6 a1_0 a1_1 a1_2 a1_3 a1_4 a1_5 a1_6 ga gb W (blk_below (kp BA.out) hW) (blk_below (kp BB.out) hW)⟩) r0 r1 r2 r3 r4 r5 r6 r7 HR.out).mono ?_); rintro e wc ⟨rfl, hb⟩; replace BA := Aside0.mk (blk_below (kp BA.out) hb); replace BB := Aside0.mk (blk_below (kp BB.out) hb); replace BR := Aside0.mk (blk_below (kp BR.out) hb); replace HB := Aside0.mk (below_step (bl HB.out) hb); clear hb x0 x1 x2 x3 x4 x5 x6 y0 y1 y2 y3 y4 y5 y6; obtain ⟨q0, q1, q2, q3, q4, q5, q6⟩ := hc7 BR.out; obtain ⟨s0, s1, s2, s3, s4, s5, s6⟩ := hf7 BR.out; clear HR))
      refine bodyPost_ret (results_ct rfl _ _ gr 23 #[.int .i64 r0, .int .i64 r1, .int .i64 r2, .int .i64 r3, .int .i64 r4, .int .i64 r5, .int .i64 r6] (0, 0) _ rfl (kp (p7_6 (kp (p7_5 (kp (p7_4 (kp (p7_3 (kp (p7_2 (kp (p7_1 (kp (p7_0 (kp BR.out))))))))))))))) hu rfl (by kernel_rfl)) rfl ?_
      exact ⟨rfl, bl HB.out⟩
    | true =>
      replace HR : Aside0 (eachP true (wrap64 (a0_0 - a1_0)) (wrap64 (a0_1 - a1_1)) (wrap64 (a0_2 - a1_2)) (wrap64 (a0_3 - a1_3)) (wrap64 (a0_4 - a1_4)) (wrap64 (a0_5 - a1_5)) (wrap64 (a0_6 - a1_6)) = (r0, r1, r2, r3, r4, r5, r6, r7)) := ⟨HR.out⟩
      go_wp2_with (first
        | ((with_reducible refine gate_dst (N := 2) rfl ?_); refine box_event ?hg (N := 2) ?hd (cs := #[.int .i64 a0_0, .int .i64 a0_1, .int .i64 a0_2, .int .i64 a0_3, .int .i64 a0_4, .int .i64 a0_5, .int .i64 a0_6]) (t := 23) ?hr ?_; (case hd => rfl); (case hg => rfl); (case hr => first | (go_simp; done) | (go_simp; rfl)); intro ga hg w1 hbox hb; have BA := Aside0.mk hbox; have HB := Aside0.mk hb; have GA := Aside0.mk (bsz (bl (Below.refl _ _)) hg : w.heap.size ≤ ga); clear hbox hb hg)
        | ((with_reducible refine gate_dst (N := 3) rfl ?_); refine box_event ?hg (N := 3) ?hd (cs := #[.int .i64 a1_0, .int .i64 a1_1, .int .i64 a1_2, .int .i64 a1_3, .int .i64 a1_4, .int .i64 a1_5, .int .i64 a1_6]) (t := 23) ?hr ?_; (case hd => rfl); (case hg => rfl); (case hr => first | (go_simp; done) | (go_simp; rfl)); intro gb hg w2 hbox hb; have GB := Aside0.mk (bsz (bl HB.out) hg : w.heap.size ≤ gb); replace BA := Aside0.mk (blk_below (kp BA.out) hb); have BB := Aside0.mk hbox; replace HB := Aside0.mk (below_step (bl HB.out) hb); clear hbox hb hg)
        | ((with_reducible refine gate_dst (N := 4) rfl ?_); refine box_event ?hg (N := 4) ?hd (cs := #[.int .i64 0, .int .i64 0, .int .i64 0, .int .i64 0, .int .i64 0, .int .i64 0, .int .i64 0]) (t := 23) ?hr ?_; (case hd => rfl); (case hg => rfl); (case hr => first | (go_simp; done) | (go_simp; rfl)); intro gr hg w3 hbox hb; have GR := Aside0.mk (bsz (bl HB.out) hg : w.heap.size ≤ gr); replace BA := Aside0.mk (blk_below (kp BA.out) hb); replace BB := Aside0.mk (blk_below (kp BB.out) hb); have BR := Aside0.mk hbox; replace HB := Aside0.mk (below_step (bl HB.out) hb); obtain ⟨x0, x1, x2, x3, x4, x5, x6⟩ := hc7 BA.out; obtain ⟨y0, y1, y2, y3, y4, y5, y6⟩ := hc7 BB.out; clear hbox hb hg)
        | (go_at_call 48; (with_reducible refine (dims_Right.calls a0_0 a0_1 a0_2 a0_3 a0_4 a0_5 a0_6 true _ HA.out).mono ?_); rintro e wa ⟨rfl, hb⟩; replace BA := Aside0.mk (blk_below (kp BA.out) hb); replace BB := Aside0.mk (blk_below (kp BB.out) hb); replace BR := Aside0.mk (blk_below (kp BR.out) hb); replace HB := Aside0.mk (below_step (bl HB.out) hb); clear hb x0 x1 x2 x3 x4 x5 x6 y0 y1 y2 y3 y4 y5 y6; obtain ⟨x0, x1, x2, x3, x4, x5, x6⟩ := hc7 BA.out; obtain ⟨y0, y1, y2, y3, y4, y5, y6⟩ := hc7 BB.out; clear HA)
        | (go_at_call 48; (with_reducible refine (dims_Right.calls a1_0 a1_1 a1_2 a1_3 a1_4 a1_5 a1_6 true _ HB_.out).mono ?_); rintro e wb ⟨rfl, hb⟩; replace BA := Aside0.mk (blk_below (kp BA.out) hb); replace BB := Aside0.mk (blk_below (kp BB.out) hb); replace BR := Aside0.mk (blk_below (kp BR.out) hb); replace HB := Aside0.mk (below_step (bl HB.out) hb); clear hb x0 x1 x2 x3 x4 x5 x6 y0 y1 y2 y3 y4 y5 y6; obtain ⟨x0, x1, x2, x3, x4, x5, x6⟩ := hc7 BA.out; obtain ⟨y0, y1, y2, y3, y4, y5, y6⟩ := hc7 BB.out; clear HB_)
        | (go_at_call 61; (with_reducible refine (each34_calls true _ _ (wrap64 (a0_0 - a1_0)) (wrap64 (a0_1 - a1_1)) (wrap64 (a0_2 - a1_2)) (wrap64 (a0_3 - a1_3)) (wrap64 (a0_4 - a1_4)) (wrap64 (a0_5 - a1_5)) (wrap64 (a0_6 - a1_6)) _ (fun W hW => ⟨sub1_0 a0_0 a0_1 a0_2 a0_3 a0_4 a0_5 a0_6 a1_0 a1_1 a1_2 a1_3 a1_4 a1_5 a1_6 ga gb W (blk_below (kp BA.out) hW) (blk_below (kp BB.out) hW), sub1_1 a0_0 a0_1 a0_2 a0_3 a0_4 a0_5 a0_6 a1_0 a1_1 a1_2 a1_3 a1_4 a1_5 a1_6 ga gb W (blk_below (kp BA.out) hW) (blk_below (kp BB.out) hW), sub1_2 a0_0 a0_1 a0_2 a0_3 a0_4 a0_5 a0_6 a1_0 a1_1 a1_2 a1_3 a1_4 a1_5 a1_6 ga gb W (blk_below (kp BA.out) hW) (blk_below (kp BB.out) hW), sub1_3 a0_0 a0_1 a0_2 a0_3 a0_4 a0_5 a0_6 a1_0 a1_1 a1_2 a1_3 a1_4 a1_5 a1_6 ga gb W (blk_below (kp BA.out) hW) (blk_below (kp BB.out) hW), sub1_4 a0_0 a0_1 a0_2 a0_3 a0_4 a0_5 a0_6 a1_0 a1_1 a1_2 a1_3 a1_4 a1_5 a1_6 ga gb W (blk_below (kp BA.out) hW) (blk_below (kp BB.out) hW), sub1_5 a0_0 a0_1 a0_2 a0_3 a0_4 a0_5 a0_6 a1_0 a1_1 a1_2 a1_3 a1_4 a1_5 a1_6 ga gb W (blk_below (kp BA.out) hW) (blk_below (kp BB.out) hW), sub1_6 a0_0 a0_1 a0_2 a0_3 a0_4 a0_5 a0_6 a1_0 a1_1 a1_2 a1_3 a1_4 a1_5 a1_6 ga gb W (blk_below (kp BA.out) hW) (blk_below (kp BB.out) hW)⟩) r0 r1 r2 r3 r4 r5 r6 r7 HR.out).mono ?_); rintro e wc ⟨rfl, hb⟩; replace BA := Aside0.mk (blk_below (kp BA.out) hb); replace BB := Aside0.mk (blk_below (kp BB.out) hb); replace BR := Aside0.mk (blk_below (kp BR.out) hb); replace HB := Aside0.mk (below_step (bl HB.out) hb); clear hb x0 x1 x2 x3 x4 x5 x6 y0 y1 y2 y3 y4 y5 y6; obtain ⟨q0, q1, q2, q3, q4, q5, q6⟩ := hc7 BR.out; obtain ⟨s0, s1, s2, s3, s4, s5, s6⟩ := hf7 BR.out; clear HR))
      refine bodyPost_ret (results_ct rfl _ _ gr 23 #[.int .i64 r0, .int .i64 r1, .int .i64 r2, .int .i64 r3, .int .i64 r4, .int .i64 r5, .int .i64 r6] (0, 0) _ rfl (kp (p7_6 (kp (p7_5 (kp (p7_4 (kp (p7_3 (kp (p7_2 (kp (p7_1 (kp (p7_0 (kp BR.out))))))))))))))) hu rfl (by kernel_rfl)) rfl ?_
      exact ⟨rfl, bl HB.out⟩
end Go.Proofs.YthfibffgmoblaaaDoor
