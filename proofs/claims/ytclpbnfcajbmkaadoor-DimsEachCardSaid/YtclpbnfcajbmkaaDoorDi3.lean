/- dims.each: seven powers, made one by one, if they are right. Its conditions: what the function that is handed in tells in each world that keeps old memory. -/
import Derived.Test.YtclpbnfcajbmkaaDoorDi2
import Derived.Test.YtclpbnfcajbmkaaDoorSq
namespace Go.Proofs.YtclpbnfcajbmkaaDoor
open Go Go.RowKit Go.Proofs.YtclpbnfcajbmkaaDoor.Di Go.Proofs.YtclpbnfcajbmkaaDoor.Sq Go.Proofs.YtclpbnfcajbmkaaDoorW.PrintWords Go.Proofs.YtclpbnfcajbmkaaDoorW.PrintLast Go.Proofs.YtclpbnfcajbmkaaDoorW.PrintMore
attribute [local go_sem] max2_int min2_int max_two min_two max_three min_three max_four min_four   -- for this text's walks alone
set_option linter.unusedVariables false
set_option linter.unusedSimpArgs false
abbrev D8 := Int × Int × Int × Int × Int × Int × Int × Bool
def eachP (is : Bool) (v0 v1 v2 v3 v4 v5 v6 : Int) : D8 := if is = true ∧ allR [v0, v1, v2, v3, v4, v5, v6] = true then (v0, v1, v2, v3, v4, v5, v6, true) else (0, 0, 0, 0, 0, 0, 0, false)
set_option maxHeartbeats 8000000 in
set_option maxRecDepth 100000 in
theorem each28_calls (is : Bool) (p q : Value) (v0 v1 v2 v3 v4 v5 v6 : Int) (w : World) (hcl : ∀ W, Below w.heap.size w W → Calls Tryd.prog 28 #[.int .i64 0, p, q] W (fun e W' => e = .returned (.int .i64 v0) ∧ Below W.heap.size W W') ∧ Calls Tryd.prog 28 #[.int .i64 1, p, q] W (fun e W' => e = .returned (.int .i64 v1) ∧ Below W.heap.size W W') ∧ Calls Tryd.prog 28 #[.int .i64 2, p, q] W (fun e W' => e = .returned (.int .i64 v2) ∧ Below W.heap.size W W') ∧ Calls Tryd.prog 28 #[.int .i64 3, p, q] W (fun e W' => e = .returned (.int .i64 v3) ∧ Below W.heap.size W W') ∧ Calls Tryd.prog 28 #[.int .i64 4, p, q] W (fun e W' => e = .returned (.int .i64 v4) ∧ Below W.heap.size W W') ∧ Calls Tryd.prog 28 #[.int .i64 5, p, q] W (fun e W' => e = .returned (.int .i64 v5) ∧ Below W.heap.size W W') ∧ Calls Tryd.prog 28 #[.int .i64 6, p, q] W (fun e W' => e = .returned (.int .i64 v6) ∧ Below W.heap.size W W')) (r0 r1 r2 r3 r4 r5 r6 : Int) (ok : Bool) (h : eachP is v0 v1 v2 v3 v4 v5 v6 = (r0, r1, r2, r3, r4, r5, r6, ok)) :
    Calls Tryd.prog 27 #[.bool is, .func (.func 28) #[] #[p, q]] w fun e w' => e = .returned (.tuple #[.agg #[.int .i64 r0, .int .i64 r1, .int .i64 r2, .int .i64 r3, .int .i64 r4, .int .i64 r5, .int .i64 r6], .bool ok]) ∧ Below w.heap.size w w' := by
  have hu := Tryd.underlying23
  have HC := Aside0.mk hcl
  have HR := Aside0.mk h
  clear hcl h
  go_enter Tryd.func27, Tryd.ntmps27
  cases is with
  | false =>
    have hr := HR.out
    unfold eachP at hr
    simp only [Bool.false_eq_true, false_and, if_false, Prod.mk.injEq] at hr
    obtain ⟨rfl, rfl, rfl, rfl, rfl, rfl, rfl, rfl⟩ := hr
    go_wp2_with (first | ((with_reducible refine gate_dst (N := 4) rfl ?_); refine box_event ?hg (N := 4) ?hd (cs := #[.int .i64 0, .int .i64 0, .int .i64 0, .int .i64 0, .int .i64 0, .int .i64 0, .int .i64 0]) (t := 23) ?hr ?_; (case hd => rfl); (case hg => rfl); (case hr => first | (go_simp; done) | (go_simp; rfl)); intro gr hg w1 hbox hb; have BR := Aside0.mk hbox; have HB := Aside0.mk hb; have GR := Aside0.mk (bsz (bl (Below.refl _ _)) hg : w.heap.size ≤ gr); obtain ⟨q0_, q1_, q2_, q3_, q4_, q5_, q6_⟩ := hc7 BR.out; obtain ⟨s0_, s1_, s2_, s3_, s4_, s5_, s6_⟩ := hf7 BR.out; clear hbox hb hg))
    refine bodyPost_ret (results_ct rfl _ _ gr 23 #[.int .i64 0, .int .i64 0, .int .i64 0, .int .i64 0, .int .i64 0, .int .i64 0, .int .i64 0] (0, 0) _ rfl (kp (p7_6 (kp (p7_5 (kp (p7_4 (kp (p7_3 (kp (p7_2 (kp (p7_1 (kp (p7_0 (kp BR.out))))))))))))))) hu rfl (by kernel_rfl)) rfl ?_
    exact ⟨rfl, bl HB.out⟩
  | true =>
    go_upto_region 4 with (first
      | ((with_reducible refine gate_dst (N := 4) rfl ?_); refine box_event ?hg (N := 4) ?hd (cs := #[.int .i64 0, .int .i64 0, .int .i64 0, .int .i64 0, .int .i64 0, .int .i64 0, .int .i64 0]) (t := 23) ?hr ?_; (case hd => rfl); (case hg => rfl); (case hr => first | (go_simp; done) | (go_simp; rfl)); intro gr hg w1 hbox hb; have BR := Aside0.mk hbox; have HB := Aside0.mk hb; have GR := Aside0.mk (bsz (bl (Below.refl _ _)) hg : w.heap.size ≤ gr); obtain ⟨q0_, q1_, q2_, q3_, q4_, q5_, q6_⟩ := hc7 BR.out; obtain ⟨s0_, s1_, s2_, s3_, s4_, s5_, s6_⟩ := hf7 BR.out; clear hbox hb hg)
      | ((with_reducible refine gate_dst (N := 6) rfl ?_); refine box_event ?hg (N := 6) ?hd (cs := #[.int .i64 0, .int .i64 0, .int .i64 0, .int .i64 0, .int .i64 0, .int .i64 0, .int .i64 0]) (t := 23) ?hr ?_; (case hd => rfl); (case hg => rfl); (case hr => first | (go_simp; done) | (go_simp; rfl)); intro gd hg w2 hbox hb; have GD := Aside0.mk (bsz (bl HB.out) hg : w.heap.size ≤ gd); have RD := Aside0.mk (nlt (kp BR.out) hg : gr ≠ gd); have DR := Aside0.mk (ngt (kp BR.out) hg : gd ≠ gr); replace BR := Aside0.mk (blk_below (kp BR.out) hb); have BD := Aside0.mk hbox; replace HB := Aside0.mk (below_step (bl HB.out) hb); clear q0_ q1_ q2_ q3_ q4_ q5_ q6_ s0_ s1_ s2_ s3_ s4_ s5_ s6_; clear hbox hb hg))
    go_wp2
    refine wp_loop_rounds 8 ?_
    rw [rounds_succ]
    go_wp2_with (first | (go_at_call 28; (with_reducible refine ((HC.out _ (bl HB.out)).1).mono ?_); rintro e wc0 ⟨rfl, hb⟩; replace BR := Aside0.mk (blk_below (kp BR.out) hb); replace BD := Aside0.mk (blk_below (kp BD.out) hb); replace HB := Aside0.mk (below_step (bl HB.out) hb); clear hb; obtain ⟨a0, a1, a2, a3, a4, a5, a6⟩ := hc7 BD.out; obtain ⟨f0, f1, f2, f3, f4, f5, f6⟩ := hf7 BD.out))
    clear a0 a1 a2 a3 a4 a5 a6 f0 f1 f2 f3 f4 f5 f6
    rw [rounds_succ]
    go_wp2_with (first | (go_at_call 28; (with_reducible refine ((HC.out _ (bl HB.out)).2.1).mono ?_); rintro e wc1 ⟨rfl, hb⟩; replace BR := Aside0.mk (blk_below (kp BR.out) hb); replace BD := Aside0.mk (blk_below (kp (p7_0 (kp BD.out))) hb); replace HB := Aside0.mk (below_step (bl HB.out) hb); clear hb; obtain ⟨a0, a1, a2, a3, a4, a5, a6⟩ := hc7 BD.out; obtain ⟨f0, f1, f2, f3, f4, f5, f6⟩ := hf7 BD.out))
    clear a0 a1 a2 a3 a4 a5 a6 f0 f1 f2 f3 f4 f5 f6
    rw [rounds_succ]
    go_wp2_with (first | (go_at_call 28; (with_reducible refine ((HC.out _ (bl HB.out)).2.2.1).mono ?_); rintro e wc2 ⟨rfl, hb⟩; replace BR := Aside0.mk (blk_below (kp BR.out) hb); replace BD := Aside0.mk (blk_below (kp (p7_1 (kp BD.out))) hb); replace HB := Aside0.mk (below_step (bl HB.out) hb); clear hb; obtain ⟨a0, a1, a2, a3, a4, a5, a6⟩ := hc7 BD.out; obtain ⟨f0, f1, f2, f3, f4, f5, f6⟩ := hf7 BD.out))
    clear a0 a1 a2 a3 a4 a5 a6 f0 f1 f2 f3 f4 f5 f6
    rw [rounds_succ]
    go_wp2_with (first | (go_at_call 28; (with_reducible refine ((HC.out _ (bl HB.out)).2.2.2.1).mono ?_); rintro e wc3 ⟨rfl, hb⟩; replace BR := Aside0.mk (blk_below (kp BR.out) hb); replace BD := Aside0.mk (blk_below (kp (p7_2 (kp BD.out))) hb); replace HB := Aside0.mk (below_step (bl HB.out) hb); clear hb; obtain ⟨a0, a1, a2, a3, a4, a5, a6⟩ := hc7 BD.out; obtain ⟨f0, f1, f2, f3, f4, f5, f6⟩ := hf7 BD.out))
    clear a0 a1 a2 a3 a4 a5 a6 f0 f1 f2 f3 f4 f5 f6
    rw [rounds_succ]
    go_wp2_with (first | (go_at_call 28; (with_reducible refine ((HC.out _ (bl HB.out)).2.2.2.2.1).mono ?_); rintro e wc4 ⟨rfl, hb⟩; replace BR := Aside0.mk (blk_below (kp BR.out) hb); replace BD := Aside0.mk (blk_below (kp (p7_3 (kp BD.out))) hb); replace HB := Aside0.mk (below_step (bl HB.out) hb); clear hb; obtain ⟨a0, a1, a2, a3, a4, a5, a6⟩ := hc7 BD.out; obtain ⟨f0, f1, f2, f3, f4, f5, f6⟩ := hf7 BD.out))
    clear a0 a1 a2 a3 a4 a5 a6 f0 f1 f2 f3 f4 f5 f6
    rw [rounds_succ]
    go_wp2_with (first | (go_at_call 28; (with_reducible refine ((HC.out _ (bl HB.out)).2.2.2.2.2.1).mono ?_); rintro e wc5 ⟨rfl, hb⟩; replace BR := Aside0.mk (blk_below (kp BR.out) hb); replace BD := Aside0.mk (blk_below (kp (p7_4 (kp BD.out))) hb); replace HB := Aside0.mk (below_step (bl HB.out) hb); clear hb; obtain ⟨a0, a1, a2, a3, a4, a5, a6⟩ := hc7 BD.out; obtain ⟨f0, f1, f2, f3, f4, f5, f6⟩ := hf7 BD.out))
    clear a0 a1 a2 a3 a4 a5 a6 f0 f1 f2 f3 f4 f5 f6
    rw [rounds_succ]
    go_wp2_with (first | (go_at_call 28; (with_reducible refine ((HC.out _ (bl HB.out)).2.2.2.2.2.2).mono ?_); rintro e wc6 ⟨rfl, hb⟩; replace BR := Aside0.mk (blk_below (kp BR.out) hb); replace BD := Aside0.mk (blk_below (kp (p7_5 (kp BD.out))) hb); replace HB := Aside0.mk (below_step (bl HB.out) hb); clear hb; obtain ⟨a0, a1, a2, a3, a4, a5, a6⟩ := hc7 BD.out; obtain ⟨f0, f1, f2, f3, f4, f5, f6⟩ := hf7 BD.out))
    clear a0 a1 a2 a3 a4 a5 a6 f0 f1 f2 f3 f4 f5 f6
    rw [rounds_succ]
    obtain ⟨a0, a1, a2, a3, a4, a5, a6⟩ := hc7 BD.out
    obtain ⟨f0, f1, f2, f3, f4, f5, f6⟩ := hf7 BD.out
    have hr := HR.out
    clear HR HC
    unfold eachP at hr
    obtain ⟨R, hR⟩ : ∃ R, allR [v0, v1, v2, v3, v4, v5, v6] = R := ⟨_, rfl⟩
    have HA : Aside0 (dims_Right.f v0 v1 v2 v3 v4 v5 v6 = some R) := ⟨by rw [← hR]; rfl⟩
    rw [hR] at hr
    clear hR
    cases R with
    | false =>
      simp only [Bool.false_eq_true, and_false, if_false, Prod.mk.injEq] at hr
      obtain ⟨rfl, rfl, rfl, rfl, rfl, rfl, rfl, rfl⟩ := hr
      go_wp2_with (first | (go_at_call 13; (with_reducible refine (dims_Right.calls v0 v1 v2 v3 v4 v5 v6 _ _ HA.out).mono ?_); rintro e wr ⟨rfl, hb⟩; replace BR := Aside0.mk (blk_below (kp BR.out) hb); replace BD := Aside0.mk (blk_below (kp (p7_6 (kp BD.out))) hb); replace HB := Aside0.mk (below_step (bl HB.out) hb); clear hb a0 a1 a2 a3 a4 a5 a6 f0 f1 f2 f3 f4 f5 f6; obtain ⟨a0, a1, a2, a3, a4, a5, a6⟩ := hc7 BD.out; obtain ⟨q0_, q1_, q2_, q3_, q4_, q5_, q6_⟩ := hc7 BR.out; obtain ⟨s0_, s1_, s2_, s3_, s4_, s5_, s6_⟩ := hf7 BR.out; have rd := RD.out; have dr := DR.out))
      refine bodyPost_ret (results_ct rfl _ _ gr 23 #[.int .i64 0, .int .i64 0, .int .i64 0, .int .i64 0, .int .i64 0, .int .i64 0, .int .i64 0] (0, 0) _ rfl (kp (p7_6 (kp (p7_5 (kp (p7_4 (kp (p7_3 (kp (p7_2 (kp (p7_1 (kp (p7_0 (kp BR.out))))))))))))))) hu rfl (by kernel_rfl)) rfl ?_
      exact ⟨rfl, bl HB.out⟩
    | true =>
      simp only [true_and, if_true, Prod.mk.injEq] at hr
      obtain ⟨rfl, rfl, rfl, rfl, rfl, rfl, rfl, rfl⟩ := hr
      go_wp2_with (first | (go_at_call 13; (with_reducible refine (dims_Right.calls v0 v1 v2 v3 v4 v5 v6 _ _ HA.out).mono ?_); rintro e wr ⟨rfl, hb⟩; replace BR := Aside0.mk (blk_below (kp BR.out) hb); replace BD := Aside0.mk (blk_below (kp (p7_6 (kp BD.out))) hb); replace HB := Aside0.mk (below_step (bl HB.out) hb); clear hb a0 a1 a2 a3 a4 a5 a6 f0 f1 f2 f3 f4 f5 f6; obtain ⟨a0, a1, a2, a3, a4, a5, a6⟩ := hc7 BD.out; obtain ⟨q0_, q1_, q2_, q3_, q4_, q5_, q6_⟩ := hc7 BR.out; obtain ⟨s0_, s1_, s2_, s3_, s4_, s5_, s6_⟩ := hf7 BR.out; have rd := RD.out; have dr := DR.out))
      refine bodyPost_ret (results_ct rfl _ _ gr 23 #[.int .i64 v0, .int .i64 v1, .int .i64 v2, .int .i64 v3, .int .i64 v4, .int .i64 v5, .int .i64 v6] (0, 0) _ rfl (kp (p7_6 (kp (p7_5 (kp (p7_4 (kp (p7_3 (kp (p7_2 (kp (p7_1 (kp (p7_0 (kp BR.out))))))))))))))) hu rfl (by kernel_rfl)) rfl ?_
      exact ⟨rfl, bl HB.out⟩
set_option maxHeartbeats 8000000 in
set_option maxRecDepth 100000 in
theorem each29_calls (is : Bool) (p q : Value) (v0 v1 v2 v3 v4 v5 v6 : Int) (w : World) (hcl : ∀ W, Below w.heap.size w W → Calls Tryd.prog 29 #[.int .i64 0, p, q] W (fun e W' => e = .returned (.int .i64 v0) ∧ Below W.heap.size W W') ∧ Calls Tryd.prog 29 #[.int .i64 1, p, q] W (fun e W' => e = .returned (.int .i64 v1) ∧ Below W.heap.size W W') ∧ Calls Tryd.prog 29 #[.int .i64 2, p, q] W (fun e W' => e = .returned (.int .i64 v2) ∧ Below W.heap.size W W') ∧ Calls Tryd.prog 29 #[.int .i64 3, p, q] W (fun e W' => e = .returned (.int .i64 v3) ∧ Below W.heap.size W W') ∧ Calls Tryd.prog 29 #[.int .i64 4, p, q] W (fun e W' => e = .returned (.int .i64 v4) ∧ Below W.heap.size W W') ∧ Calls Tryd.prog 29 #[.int .i64 5, p, q] W (fun e W' => e = .returned (.int .i64 v5) ∧ Below W.heap.size W W') ∧ Calls Tryd.prog 29 #[.int .i64 6, p, q] W (fun e W' => e = .returned (.int .i64 v6) ∧ Below W.heap.size W W')) (r0 r1 r2 r3 r4 r5 r6 : Int) (ok : Bool) (h : eachP is v0 v1 v2 v3 v4 v5 v6 = (r0, r1, r2, r3, r4, r5, r6, ok)) :
    Calls Tryd.prog 27 #[.bool is, .func (.func 29) #[] #[p, q]] w fun e w' => e = .returned (.tuple #[.agg #[.int .i64 r0, .int .i64 r1, .int .i64 r2, .int .i64 r3, .int .i64 r4, .int .i64 r5, .int .i64 r6], .bool ok]) ∧ Below w.heap.size w w' := by
  have hu := Tryd.underlying23
  have HC := Aside0.mk hcl
  have HR := Aside0.mk h
  clear hcl h
  go_enter Tryd.func27, Tryd.ntmps27
  cases is with
  | false =>
    have hr := HR.out
    unfold eachP at hr
    simp only [Bool.false_eq_true, false_and, if_false, Prod.mk.injEq] at hr
    obtain ⟨rfl, rfl, rfl, rfl, rfl, rfl, rfl, rfl⟩ := hr
    go_wp2_with (first | ((with_reducible refine gate_dst (N := 4) rfl ?_); refine box_event ?hg (N := 4) ?hd (cs := #[.int .i64 0, .int .i64 0, .int .i64 0, .int .i64 0, .int .i64 0, .int .i64 0, .int .i64 0]) (t := 23) ?hr ?_; (case hd => rfl); (case hg => rfl); (case hr => first | (go_simp; done) | (go_simp; rfl)); intro gr hg w1 hbox hb; have BR := Aside0.mk hbox; have HB := Aside0.mk hb; have GR := Aside0.mk (bsz (bl (Below.refl _ _)) hg : w.heap.size ≤ gr); obtain ⟨q0_, q1_, q2_, q3_, q4_, q5_, q6_⟩ := hc7 BR.out; obtain ⟨s0_, s1_, s2_, s3_, s4_, s5_, s6_⟩ := hf7 BR.out; clear hbox hb hg))
    refine bodyPost_ret (results_ct rfl _ _ gr 23 #[.int .i64 0, .int .i64 0, .int .i64 0, .int .i64 0, .int .i64 0, .int .i64 0, .int .i64 0] (0, 0) _ rfl (kp (p7_6 (kp (p7_5 (kp (p7_4 (kp (p7_3 (kp (p7_2 (kp (p7_1 (kp (p7_0 (kp BR.out))))))))))))))) hu rfl (by kernel_rfl)) rfl ?_
    exact ⟨rfl, bl HB.out⟩
  | true =>
    go_upto_region 4 with (first
      | ((with_reducible refine gate_dst (N := 4) rfl ?_); refine box_event ?hg (N := 4) ?hd (cs := #[.int .i64 0, .int .i64 0, .int .i64 0, .int .i64 0, .int .i64 0, .int .i64 0, .int .i64 0]) (t := 23) ?hr ?_; (case hd => rfl); (case hg => rfl); (case hr => first | (go_simp; done) | (go_simp; rfl)); intro gr hg w1 hbox hb; have BR := Aside0.mk hbox; have HB := Aside0.mk hb; have GR := Aside0.mk (bsz (bl (Below.refl _ _)) hg : w.heap.size ≤ gr); obtain ⟨q0_, q1_, q2_, q3_, q4_, q5_, q6_⟩ := hc7 BR.out; obtain ⟨s0_, s1_, s2_, s3_, s4_, s5_, s6_⟩ := hf7 BR.out; clear hbox hb hg)
      | ((with_reducible refine gate_dst (N := 6) rfl ?_); refine box_event ?hg (N := 6) ?hd (cs := #[.int .i64 0, .int .i64 0, .int .i64 0, .int .i64 0, .int .i64 0, .int .i64 0, .int .i64 0]) (t := 23) ?hr ?_; (case hd => rfl); (case hg => rfl); (case hr => first | (go_simp; done) | (go_simp; rfl)); intro gd hg w2 hbox hb; have GD := Aside0.mk (bsz (bl HB.out) hg : w.heap.size ≤ gd); have RD := Aside0.mk (nlt (kp BR.out) hg : gr ≠ gd); have DR := Aside0.mk (ngt (kp BR.out) hg : gd ≠ gr); replace BR := Aside0.mk (blk_below (kp BR.out) hb); have BD := Aside0.mk hbox; replace HB := Aside0.mk (below_step (bl HB.out) hb); clear q0_ q1_ q2_ q3_ q4_ q5_ q6_ s0_ s1_ s2_ s3_ s4_ s5_ s6_; clear hbox hb hg))
    go_wp2
    refine wp_loop_rounds 8 ?_
    rw [rounds_succ]
    go_wp2_with (first | (go_at_call 29; (with_reducible refine ((HC.out _ (bl HB.out)).1).mono ?_); rintro e wc0 ⟨rfl, hb⟩; replace BR := Aside0.mk (blk_below (kp BR.out) hb); replace BD := Aside0.mk (blk_below (kp BD.out) hb); replace HB := Aside0.mk (below_step (bl HB.out) hb); clear hb; obtain ⟨a0, a1, a2, a3, a4, a5, a6⟩ := hc7 BD.out; obtain ⟨f0, f1, f2, f3, f4, f5, f6⟩ := hf7 BD.out))
    clear a0 a1 a2 a3 a4 a5 a6 f0 f1 f2 f3 f4 f5 f6
    rw [rounds_succ]
    go_wp2_with (first | (go_at_call 29; (with_reducible refine ((HC.out _ (bl HB.out)).2.1).mono ?_); rintro e wc1 ⟨rfl, hb⟩; replace BR := Aside0.mk (blk_below (kp BR.out) hb); replace BD := Aside0.mk (blk_below (kp (p7_0 (kp BD.out))) hb); replace HB := Aside0.mk (below_step (bl HB.out) hb); clear hb; obtain ⟨a0, a1, a2, a3, a4, a5, a6⟩ := hc7 BD.out; obtain ⟨f0, f1, f2, f3, f4, f5, f6⟩ := hf7 BD.out))
    clear a0 a1 a2 a3 a4 a5 a6 f0 f1 f2 f3 f4 f5 f6
    rw [rounds_succ]
    go_wp2_with (first | (go_at_call 29; (with_reducible refine ((HC.out _ (bl HB.out)).2.2.1).mono ?_); rintro e wc2 ⟨rfl, hb⟩; replace BR := Aside0.mk (blk_below (kp BR.out) hb); replace BD := Aside0.mk (blk_below (kp (p7_1 (kp BD.out))) hb); replace HB := Aside0.mk (below_step (bl HB.out) hb); clear hb; obtain ⟨a0, a1, a2, a3, a4, a5, a6⟩ := hc7 BD.out; obtain ⟨f0, f1, f2, f3, f4, f5, f6⟩ := hf7 BD.out))
    clear a0 a1 a2 a3 a4 a5 a6 f0 f1 f2 f3 f4 f5 f6
    rw [rounds_succ]
    go_wp2_with (first | (go_at_call 29; (with_reducible refine ((HC.out _ (bl HB.out)).2.2.2.1).mono ?_); rintro e wc3 ⟨rfl, hb⟩; replace BR := Aside0.mk (blk_below (kp BR.out) hb); replace BD := Aside0.mk (blk_below (kp (p7_2 (kp BD.out))) hb); replace HB := Aside0.mk (below_step (bl HB.out) hb); clear hb; obtain ⟨a0, a1, a2, a3, a4, a5, a6⟩ := hc7 BD.out; obtain ⟨f0, f1, f2, f3, f4, f5, f6⟩ := hf7 BD.out))
    clear a0 a1 a2 a3 a4 a5 a6 f0 f1 f2 f3 f4 f5 f6
    rw [rounds_succ]
    go_wp2_with (first | (go_at_call 29; (with_reducible refine ((HC.out _ (bl HB.out)).2.2.2.2.1).mono ?_); rintro e wc4 ⟨rfl, hb⟩; replace BR := Aside0.mk (blk_below (kp BR.out) hb); replace BD := Aside0.mk (blk_below (kp (p7_3 (kp BD.out))) hb); replace HB := Aside0.mk (below_step (bl HB.out) hb); clear hb; obtain ⟨a0, a1, a2, a3, a4, a5, a6⟩ := hc7 BD.out; obtain ⟨f0, f1, f2, f3, f4, f5, f6⟩ := hf7 BD.out))
    clear a0 a1 a2 a3 a4 a5 a6 f0 f1 f2 f3 f4 f5 f6
    rw [rounds_succ]
    go_wp2_with (first | (go_at_call 29; (with_reducible refine ((HC.out _ (bl HB.out)).2.2.2.2.2.1).mono ?_); rintro e wc5 ⟨rfl, hb⟩; replace BR := Aside0.mk (blk_below (kp BR.out) hb); replace BD := Aside0.mk (blk_below (kp (p7_4 (kp BD.out))) hb); replace HB := Aside0.mk (below_step (bl HB.out) hb); clear hb; obtain ⟨a0, a1, a2, a3, a4, a5, a6⟩ := hc7 BD.out; obtain ⟨f0, f1, f2, f3, f4, f5, f6⟩ := hf7 BD.out))
    clear a0 a1 a2 a3 a4 a5 a6 f0 f1 f2 f3 f4 f5 f6
    rw [rounds_succ]
    go_wp2_with (first | (go_at_call 29; (with_reducible refine ((HC.out _ (bl HB.out)).2.2.2.2.2.2).mono ?_); rintro e wc6 ⟨rfl, hb⟩; replace BR := Aside0.mk (blk_below (kp BR.out) hb); replace BD := Aside0.mk (blk_below (kp (p7_5 (kp BD.out))) hb); replace HB := Aside0.mk (below_step (bl HB.out) hb); clear hb; obtain ⟨a0, a1, a2, a3, a4, a5, a6⟩ := hc7 BD.out; obtain ⟨f0, f1, f2, f3, f4, f5, f6⟩ := hf7 BD.out))
    clear a0 a1 a2 a3 a4 a5 a6 f0 f1 f2 f3 f4 f5 f6
    rw [rounds_succ]
    obtain ⟨a0, a1, a2, a3, a4, a5, a6⟩ := hc7 BD.out
    obtain ⟨f0, f1, f2, f3, f4, f5, f6⟩ := hf7 BD.out
    have hr := HR.out
    clear HR HC
    unfold eachP at hr
    obtain ⟨R, hR⟩ : ∃ R, allR [v0, v1, v2, v3, v4, v5, v6] = R := ⟨_, rfl⟩
    have HA : Aside0 (dims_Right.f v0 v1 v2 v3 v4 v5 v6 = some R) := ⟨by rw [← hR]; rfl⟩
    rw [hR] at hr
    clear hR
    cases R with
    | false =>
      simp only [Bool.false_eq_true, and_false, if_false, Prod.mk.injEq] at hr
      obtain ⟨rfl, rfl, rfl, rfl, rfl, rfl, rfl, rfl⟩ := hr
      go_wp2_with (first | (go_at_call 13; (with_reducible refine (dims_Right.calls v0 v1 v2 v3 v4 v5 v6 _ _ HA.out).mono ?_); rintro e wr ⟨rfl, hb⟩; replace BR := Aside0.mk (blk_below (kp BR.out) hb); replace BD := Aside0.mk (blk_below (kp (p7_6 (kp BD.out))) hb); replace HB := Aside0.mk (below_step (bl HB.out) hb); clear hb a0 a1 a2 a3 a4 a5 a6 f0 f1 f2 f3 f4 f5 f6; obtain ⟨a0, a1, a2, a3, a4, a5, a6⟩ := hc7 BD.out; obtain ⟨q0_, q1_, q2_, q3_, q4_, q5_, q6_⟩ := hc7 BR.out; obtain ⟨s0_, s1_, s2_, s3_, s4_, s5_, s6_⟩ := hf7 BR.out; have rd := RD.out; have dr := DR.out))
      refine bodyPost_ret (results_ct rfl _ _ gr 23 #[.int .i64 0, .int .i64 0, .int .i64 0, .int .i64 0, .int .i64 0, .int .i64 0, .int .i64 0] (0, 0) _ rfl (kp (p7_6 (kp (p7_5 (kp (p7_4 (kp (p7_3 (kp (p7_2 (kp (p7_1 (kp (p7_0 (kp BR.out))))))))))))))) hu rfl (by kernel_rfl)) rfl ?_
      exact ⟨rfl, bl HB.out⟩
    | true =>
      simp only [true_and, if_true, Prod.mk.injEq] at hr
      obtain ⟨rfl, rfl, rfl, rfl, rfl, rfl, rfl, rfl⟩ := hr
      go_wp2_with (first | (go_at_call 13; (with_reducible refine (dims_Right.calls v0 v1 v2 v3 v4 v5 v6 _ _ HA.out).mono ?_); rintro e wr ⟨rfl, hb⟩; replace BR := Aside0.mk (blk_below (kp BR.out) hb); replace BD := Aside0.mk (blk_below (kp (p7_6 (kp BD.out))) hb); replace HB := Aside0.mk (below_step (bl HB.out) hb); clear hb a0 a1 a2 a3 a4 a5 a6 f0 f1 f2 f3 f4 f5 f6; obtain ⟨a0, a1, a2, a3, a4, a5, a6⟩ := hc7 BD.out; obtain ⟨q0_, q1_, q2_, q3_, q4_, q5_, q6_⟩ := hc7 BR.out; obtain ⟨s0_, s1_, s2_, s3_, s4_, s5_, s6_⟩ := hf7 BR.out; have rd := RD.out; have dr := DR.out))
      refine bodyPost_ret (results_ct rfl _ _ gr 23 #[.int .i64 v0, .int .i64 v1, .int .i64 v2, .int .i64 v3, .int .i64 v4, .int .i64 v5, .int .i64 v6] (0, 0) _ rfl (kp (p7_6 (kp (p7_5 (kp (p7_4 (kp (p7_3 (kp (p7_2 (kp (p7_1 (kp (p7_0 (kp BR.out))))))))))))))) hu rfl (by kernel_rfl)) rfl ?_
      exact ⟨rfl, bl HB.out⟩
set_option maxHeartbeats 8000000 in
set_option maxRecDepth 100000 in
theorem each34_calls (is : Bool) (p q : Value) (v0 v1 v2 v3 v4 v5 v6 : Int) (w : World) (hcl : ∀ W, Below w.heap.size w W → Calls Tryd.prog 34 #[.int .i64 0, p, q] W (fun e W' => e = .returned (.int .i64 v0) ∧ Below W.heap.size W W') ∧ Calls Tryd.prog 34 #[.int .i64 1, p, q] W (fun e W' => e = .returned (.int .i64 v1) ∧ Below W.heap.size W W') ∧ Calls Tryd.prog 34 #[.int .i64 2, p, q] W (fun e W' => e = .returned (.int .i64 v2) ∧ Below W.heap.size W W') ∧ Calls Tryd.prog 34 #[.int .i64 3, p, q] W (fun e W' => e = .returned (.int .i64 v3) ∧ Below W.heap.size W W') ∧ Calls Tryd.prog 34 #[.int .i64 4, p, q] W (fun e W' => e = .returned (.int .i64 v4) ∧ Below W.heap.size W W') ∧ Calls Tryd.prog 34 #[.int .i64 5, p, q] W (fun e W' => e = .returned (.int .i64 v5) ∧ Below W.heap.size W W') ∧ Calls Tryd.prog 34 #[.int .i64 6, p, q] W (fun e W' => e = .returned (.int .i64 v6) ∧ Below W.heap.size W W')) (r0 r1 r2 r3 r4 r5 r6 : Int) (ok : Bool) (h : eachP is v0 v1 v2 v3 v4 v5 v6 = (r0, r1, r2, r3, r4, r5, r6, ok)) :
    Calls Tryd.prog 27 #[.bool is, .func (.func 34) #[] #[p, q]] w fun e w' => e = .returned (.tuple #[.agg #[.int .i64 r0, .int .i64 r1, .int .i64 r2, .int .i64 r3, .int .i64 r4, .int .i64 r5, .int .i64 r6], .bool ok]) ∧ Below w.heap.size w w' := by
  have hu := Tryd.underlying23
  have HC := Aside0.mk hcl
  have HR := Aside0.mk h
  clear hcl h
  go_enter Tryd.func27, Tryd.ntmps27
  cases is with
  | false =>
    have hr := HR.out
    unfold eachP at hr
    simp only [Bool.false_eq_true, false_and, if_false, Prod.mk.injEq] at hr
    obtain ⟨rfl, rfl, rfl, rfl, rfl, rfl, rfl, rfl⟩ := hr
    go_wp2_with (first | ((with_reducible refine gate_dst (N := 4) rfl ?_); refine box_event ?hg (N := 4) ?hd (cs := #[.int .i64 0, .int .i64 0, .int .i64 0, .int .i64 0, .int .i64 0, .int .i64 0, .int .i64 0]) (t := 23) ?hr ?_; (case hd => rfl); (case hg => rfl); (case hr => first | (go_simp; done) | (go_simp; rfl)); intro gr hg w1 hbox hb; have BR := Aside0.mk hbox; have HB := Aside0.mk hb; have GR := Aside0.mk (bsz (bl (Below.refl _ _)) hg : w.heap.size ≤ gr); obtain ⟨q0_, q1_, q2_, q3_, q4_, q5_, q6_⟩ := hc7 BR.out; obtain ⟨s0_, s1_, s2_, s3_, s4_, s5_, s6_⟩ := hf7 BR.out; clear hbox hb hg))
    refine bodyPost_ret (results_ct rfl _ _ gr 23 #[.int .i64 0, .int .i64 0, .int .i64 0, .int .i64 0, .int .i64 0, .int .i64 0, .int .i64 0] (0, 0) _ rfl (kp (p7_6 (kp (p7_5 (kp (p7_4 (kp (p7_3 (kp (p7_2 (kp (p7_1 (kp (p7_0 (kp BR.out))))))))))))))) hu rfl (by kernel_rfl)) rfl ?_
    exact ⟨rfl, bl HB.out⟩
  | true =>
    go_upto_region 4 with (first
      | ((with_reducible refine gate_dst (N := 4) rfl ?_); refine box_event ?hg (N := 4) ?hd (cs := #[.int .i64 0, .int .i64 0, .int .i64 0, .int .i64 0, .int .i64 0, .int .i64 0, .int .i64 0]) (t := 23) ?hr ?_; (case hd => rfl); (case hg => rfl); (case hr => first | (go_simp; done) | (go_simp; rfl)); intro gr hg w1 hbox hb; have BR := Aside0.mk hbox; have HB := Aside0.mk hb; have GR := Aside0.mk (bsz (bl (Below.refl _ _)) hg : w.heap.size ≤ gr); obtain ⟨q0_, q1_, q2_, q3_, q4_, q5_, q6_⟩ := hc7 BR.out; obtain ⟨s0_, s1_, s2_, s3_, s4_, s5_, s6_⟩ := hf7 BR.out; clear hbox hb hg)
      | ((with_reducible refine gate_dst (N := 6) rfl ?_); refine box_event ?hg (N := 6) ?hd (cs := #[.int .i64 0, .int .i64 0, .int .i64 0, .int .i64 0, .int .i64 0, .int .i64 0, .int .i64 0]) (t := 23) ?hr ?_; (case hd => rfl); (case hg => rfl); (case hr => first | (go_simp; done) | (go_simp; rfl)); intro gd hg w2 hbox hb; have GD := Aside0.mk (bsz (bl HB.out) hg : w.heap.size ≤ gd); have RD := Aside0.mk (nlt (kp BR.out) hg : gr ≠ gd); have DR := Aside0.mk (ngt (kp BR.out) hg : gd ≠ gr); replace BR := Aside0.mk (blk_below (kp BR.out) hb); have BD := Aside0.mk hbox; replace HB := Aside0.mk (below_step (bl HB.out) hb); clear q0_ q1_ q2_ q3_ q4_ q5_ q6_ s0_ s1_ s2_ s3_ s4_ s5_ s6_; clear hbox hb hg))
    go_wp2
    refine wp_loop_rounds 8 ?_
    rw [rounds_succ]
    go_wp2_with (first | (go_at_call 34; (with_reducible refine ((HC.out _ (bl HB.out)).1).mono ?_); rintro e wc0 ⟨rfl, hb⟩; replace BR := Aside0.mk (blk_below (kp BR.out) hb); replace BD := Aside0.mk (blk_below (kp BD.out) hb); replace HB := Aside0.mk (below_step (bl HB.out) hb); clear hb; obtain ⟨a0, a1, a2, a3, a4, a5, a6⟩ := hc7 BD.out; obtain ⟨f0, f1, f2, f3, f4, f5, f6⟩ := hf7 BD.out))
    clear a0 a1 a2 a3 a4 a5 a6 f0 f1 f2 f3 f4 f5 f6
    rw [rounds_succ]
    go_wp2_with (first | (go_at_call 34; (with_reducible refine ((HC.out _ (bl HB.out)).2.1).mono ?_); rintro e wc1 ⟨rfl, hb⟩; replace BR := Aside0.mk (blk_below (kp BR.out) hb); replace BD := Aside0.mk (blk_below (kp (p7_0 (kp BD.out))) hb); replace HB := Aside0.mk (below_step (bl HB.out) hb); clear hb; obtain ⟨a0, a1, a2, a3, a4, a5, a6⟩ := hc7 BD.out; obtain ⟨f0, f1, f2, f3, f4, f5, f6⟩ := hf7 BD.out))
    clear a0 a1 a2 a3 a4 a5 a6 f0 f1 f2 f3 f4 f5 f6
    rw [rounds_succ]
    go_wp2_with (first | (go_at_call 34; (with_reducible refine ((HC.out _ (bl HB.out)).2.2.1).mono ?_); rintro e wc2 ⟨rfl, hb⟩; replace BR := Aside0.mk (blk_below (kp BR.out) hb); replace BD := Aside0.mk (blk_below (kp (p7_1 (kp BD.out))) hb); replace HB := Aside0.mk (below_step (bl HB.out) hb); clear hb; obtain ⟨a0, a1, a2, a3, a4, a5, a6⟩ := hc7 BD.out; obtain ⟨f0, f1, f2, f3, f4, f5, f6⟩ := hf7 BD.out))
    clear a0 a1 a2 a3 a4 a5 a6 f0 f1 f2 f3 f4 f5 f6
    rw [rounds_succ]
    go_wp2_with (first | (go_at_call 34; (with_reducible refine ((HC.out _ (bl HB.out)).2.2.2.1).mono ?_); rintro e wc3 ⟨rfl, hb⟩; replace BR := Aside0.mk (blk_below (kp BR.out) hb); replace BD := Aside0.mk (blk_below (kp (p7_2 (kp BD.out))) hb); replace HB := Aside0.mk (below_step (bl HB.out) hb); clear hb; obtain ⟨a0, a1, a2, a3, a4, a5, a6⟩ := hc7 BD.out; obtain ⟨f0, f1, f2, f3, f4, f5, f6⟩ := hf7 BD.out))
    clear a0 a1 a2 a3 a4 a5 a6 f0 f1 f2 f3 f4 f5 f6
    rw [rounds_succ]
    go_wp2_with (first | (go_at_call 34; (with_reducible refine ((HC.out _ (bl HB.out)).2.2.2.2.1).mono ?_); rintro e wc4 ⟨rfl, hb⟩; replace BR := Aside0.mk (blk_below (kp BR.out) hb); replace BD := Aside0.mk (blk_below (kp (p7_3 (kp BD.out))) hb); replace HB := Aside0.mk (below_step (bl HB.out) hb); clear hb; obtain ⟨a0, a1, a2, a3, a4, a5, a6⟩ := hc7 BD.out; obtain ⟨f0, f1, f2, f3, f4, f5, f6⟩ := hf7 BD.out))
    clear a0 a1 a2 a3 a4 a5 a6 f0 f1 f2 f3 f4 f5 f6
    rw [rounds_succ]
    go_wp2_with (first | (go_at_call 34; (with_reducible refine ((HC.out _ (bl HB.out)).2.2.2.2.2.1).mono ?_); rintro e wc5 ⟨rfl, hb⟩; replace BR := Aside0.mk (blk_below (kp BR.out) hb); replace BD := Aside0.mk (blk_below (kp (p7_4 (kp BD.out))) hb); replace HB := Aside0.mk (below_step (bl HB.out) hb); clear hb; obtain ⟨a0, a1, a2, a3, a4, a5, a6⟩ := hc7 BD.out; obtain ⟨f0, f1, f2, f3, f4, f5, f6⟩ := hf7 BD.out))
    clear a0 a1 a2 a3 a4 a5 a6 f0 f1 f2 f3 f4 f5 f6
    rw [rounds_succ]
    go_wp2_with (first | (go_at_call 34; (with_reducible refine ((HC.out _ (bl HB.out)).2.2.2.2.2.2).mono ?_); rintro e wc6 ⟨rfl, hb⟩; replace BR := Aside0.mk (blk_below (kp BR.out) hb); replace BD := Aside0.mk (blk_below (kp (p7_5 (kp BD.out))) hb); replace HB := Aside0.mk (below_step (bl HB.out) hb); clear hb; obtain ⟨a0, a1, a2, a3, a4, a5, a6⟩ := hc7 BD.out; obtain ⟨f0, f1, f2, f3, f4, f5, f6⟩ := hf7 BD.out))
    clear a0 a1 a2 a3 a4 a5 a6 f0 f1 f2 f3 f4 f5 f6
    rw [rounds_succ]
    obtain ⟨a0, a1, a2, a3, a4, a5, a6⟩ := hc7 BD.out
    obtain ⟨f0, f1, f2, f3, f4, f5, f6⟩ := hf7 BD.out
    have hr := HR.out
    clear HR HC
    unfold eachP at hr
    obtain ⟨R, hR⟩ : ∃ R, allR [v0, v1, v2, v3, v4, v5, v6] = R := ⟨_, rfl⟩
    have HA : Aside0 (dims_Right.f v0 v1 v2 v3 v4 v5 v6 = some R) := ⟨by rw [← hR]; rfl⟩
    rw [hR] at hr
    clear hR
    cases R with
    | false =>
      simp only [Bool.false_eq_true, and_false, if_false, Prod.mk.injEq] at hr
      obtain ⟨rfl, rfl, rfl, rfl, rfl, rfl, rfl, rfl⟩ := hr
      go_wp2_with (first | (go_at_call 13; (with_reducible refine (dims_Right.calls v0 v1 v2 v3 v4 v5 v6 _ _ HA.out).mono ?_); rintro e wr ⟨rfl, hb⟩; replace BR := Aside0.mk (blk_below (kp BR.out) hb); replace BD := Aside0.mk (blk_below (kp (p7_6 (kp BD.out))) hb); replace HB := Aside0.mk (below_step (bl HB.out) hb); clear hb a0 a1 a2 a3 a4 a5 a6 f0 f1 f2 f3 f4 f5 f6; obtain ⟨a0, a1, a2, a3, a4, a5, a6⟩ := hc7 BD.out; obtain ⟨q0_, q1_, q2_, q3_, q4_, q5_, q6_⟩ := hc7 BR.out; obtain ⟨s0_, s1_, s2_, s3_, s4_, s5_, s6_⟩ := hf7 BR.out; have rd := RD.out; have dr := DR.out))
      refine bodyPost_ret (results_ct rfl _ _ gr 23 #[.int .i64 0, .int .i64 0, .int .i64 0, .int .i64 0, .int .i64 0, .int .i64 0, .int .i64 0] (0, 0) _ rfl (kp (p7_6 (kp (p7_5 (kp (p7_4 (kp (p7_3 (kp (p7_2 (kp (p7_1 (kp (p7_0 (kp BR.out))))))))))))))) hu rfl (by kernel_rfl)) rfl ?_
      exact ⟨rfl, bl HB.out⟩
    | true =>
      simp only [true_and, if_true, Prod.mk.injEq] at hr
      obtain ⟨rfl, rfl, rfl, rfl, rfl, rfl, rfl, rfl⟩ := hr
      go_wp2_with (first | (go_at_call 13; (with_reducible refine (dims_Right.calls v0 v1 v2 v3 v4 v5 v6 _ _ HA.out).mono ?_); rintro e wr ⟨rfl, hb⟩; replace BR := Aside0.mk (blk_below (kp BR.out) hb); replace BD := Aside0.mk (blk_below (kp (p7_6 (kp BD.out))) hb); replace HB := Aside0.mk (below_step (bl HB.out) hb); clear hb a0 a1 a2 a3 a4 a5 a6 f0 f1 f2 f3 f4 f5 f6; obtain ⟨a0, a1, a2, a3, a4, a5, a6⟩ := hc7 BD.out; obtain ⟨q0_, q1_, q2_, q3_, q4_, q5_, q6_⟩ := hc7 BR.out; obtain ⟨s0_, s1_, s2_, s3_, s4_, s5_, s6_⟩ := hf7 BR.out; have rd := RD.out; have dr := DR.out))
      refine bodyPost_ret (results_ct rfl _ _ gr 23 #[.int .i64 v0, .int .i64 v1, .int .i64 v2, .int .i64 v3, .int .i64 v4, .int .i64 v5, .int .i64 v6] (0, 0) _ rfl (kp (p7_6 (kp (p7_5 (kp (p7_4 (kp (p7_3 (kp (p7_2 (kp (p7_1 (kp (p7_0 (kp BR.out))))))))))))))) hu rfl (by kernel_rfl)) rfl ?_
      exact ⟨rfl, bl HB.out⟩
end Go.Proofs.YtclpbnfcajbmkaaDoor
