/- dims.Times. No conditions. -/
import Derived.Test.YthfibffgmoblaaaDoorDi4
import Derived.Test.YthfibffgmoblaaaDoorEq7
namespace Go.Proofs.YthfibffgmoblaaaDoor
open Go Go.RowKit Go.Proofs.YthfibffgmoblaaaDoor.Di Go.Proofs.YthfibffgmoblaaaDoor.Sq Go.Proofs.YthfibffgmoblaaaDoorW.PrintWords Go.Proofs.YthfibffgmoblaaaDoorW.PrintLast Go.Proofs.YthfibffgmoblaaaDoorW.PrintMore
attribute [local go_sem] max2_int min2_int max_two min_two max_three min_three max_four min_four   -- for this text's walks alone
set_option linter.unusedVariables false
set_option linter.unusedSimpArgs false
def few (a0_0 a0_1 a0_2 a0_3 a0_4 a0_5 a0_6 a1 : Int) : Bool := (decide (-99 ≤ a1) && decide (a1 ≤ 99)) || [a0_0, a0_1, a0_2, a0_3, a0_4, a0_5, a0_6].all (fun x => x == 0)
def dims_Times.f (a0_0 a0_1 a0_2 a0_3 a0_4 a0_5 a0_6 a1 : Int) : Option D8 := some (eachP (allR [a0_0, a0_1, a0_2, a0_3, a0_4, a0_5, a0_6] && few a0_0 a0_1 a0_2 a0_3 a0_4 a0_5 a0_6 a1) (wrap64 (a0_0 * a1)) (wrap64 (a0_1 * a1)) (wrap64 (a0_2 * a1)) (wrap64 (a0_3 * a1)) (wrap64 (a0_4 * a1)) (wrap64 (a0_5 * a1)) (wrap64 (a0_6 * a1)))
set_option maxHeartbeats 4000000 in
set_option maxRecDepth 100000 in
theorem dims_Times.calls (a0_0 a0_1 a0_2 a0_3 a0_4 a0_5 a0_6 a1 : Int) (r0 r1 r2 r3 r4 r5 r6 : Int) (r7 : Bool) (w : World) (h : dims_Times.f a0_0 a0_1 a0_2 a0_3 a0_4 a0_5 a0_6 a1 = some (r0, r1, r2, r3, r4, r5, r6, r7)) :
    Calls Tryd.prog 40 #[.agg #[.int .i64 a0_0, .int .i64 a0_1, .int .i64 a0_2, .int .i64 a0_3, .int .i64 a0_4, .int .i64 a0_5, .int .i64 a0_6], .int .i64 a1] w fun e w' => e = .returned (.tuple #[.agg #[.int .i64 r0, .int .i64 r1, .int .i64 r2, .int .i64 r3, .int .i64 r4, .int .i64 r5, .int .i64 r6], .bool r7]) ∧ Below w.heap.size w w' := by
  have hu := Tryd.underlying23
  have hr := Option.some.inj h
  clear h
  obtain ⟨Ra, hRa⟩ : ∃ R, allR [a0_0, a0_1, a0_2, a0_3, a0_4, a0_5, a0_6] = R := ⟨_, rfl⟩
  have HA : Aside0 (dims_Right.f a0_0 a0_1 a0_2 a0_3 a0_4 a0_5 a0_6 = some Ra) := ⟨by rw [← hRa]; rfl⟩
  obtain ⟨z, hz⟩ : ∃ z, (a0_0 == 0 && (a0_1 == 0 && (a0_2 == 0 && (a0_3 == 0 && (a0_4 == 0 && (a0_5 == 0 && (a0_6 == 0))))))) = z := ⟨_, rfl⟩
  have heq : ∀ W, (Op.equalIn 10000 23 (.agg #[.int .i64 a0_0, .int .i64 a0_1, .int .i64 a0_2, .int .i64 a0_3, .int .i64 a0_4, .int .i64 a0_5, .int .i64 a0_6]) (.agg #[.int .i64 0, .int .i64 0, .int .i64 0, .int .i64 0, .int .i64 0, .int .i64 0, .int .i64 0])).run Tryd.prog W = .ok z W := fun W => by rw [eq7, hz]
  obtain ⟨l1, hl1⟩ : ∃ l, decide (-99 ≤ a1) = l := ⟨_, rfl⟩
  obtain ⟨l2, hl2⟩ : ∃ l, decide (a1 ≤ 99) = l := ⟨_, rfl⟩
  have hfew : few a0_0 a0_1 a0_2 a0_3 a0_4 a0_5 a0_6 a1 = ((l1 && l2) || z) := by
    unfold few
    rw [hl1, hl2, ← hz]
    simp only [List.all_cons, List.all_nil, Bool.and_true]
  rw [hRa, hfew] at hr
  clear hRa hfew hz
  cases l1 <;> cases l2 <;> cases z <;> cases Ra <;> simp only [Bool.true_and, Bool.false_and, Bool.and_true, Bool.and_false, Bool.or_true, Bool.or_false, Bool.true_or, Bool.false_or] at hr
  all_goals have HR := Aside0.mk hr
  all_goals clear hr
  all_goals (
    go_enter Tryd.func40, Tryd.ntmps40
    go_wp2_with (first
      | ((with_reducible refine gate_dst (N := 2) rfl ?_); refine box_event ?hg (N := 2) ?hd (cs := #[.int .i64 a0_0, .int .i64 a0_1, .int .i64 a0_2, .int .i64 a0_3, .int .i64 a0_4, .int .i64 a0_5, .int .i64 a0_6]) (t := 23) ?hr ?_; (case hd => rfl); (case hg => rfl); (case hr => first | (go_simp; done) | (go_simp; rfl)); intro ga hg w1 hbox hb; have BA := Aside0.mk hbox; have HB := Aside0.mk hb; have GA := Aside0.mk (bsz (bl (Below.refl _ _)) hg : w.heap.size ≤ ga); clear hbox hb hg)
      | ((with_reducible refine gate_dst (N := 3) rfl ?_); refine box_event ?hg (N := 3) ?hd (cs := #[.int .i64 a1]) (t := 3) ?hr ?_; (case hd => rfl); (case hg => rfl); (case hr => first | (go_simp; done) | (go_simp; rfl)); intro gb hg w2 hbox hb; have GB := Aside0.mk (bsz (bl HB.out) hg : w.heap.size ≤ gb); replace BA := Aside0.mk (blk_below (kp BA.out) hb); have BB := Aside0.mk hbox; replace HB := Aside0.mk (below_step (bl HB.out) hb); clear hbox hb hg)
      | ((with_reducible refine gate_dst (N := 4) rfl ?_); refine box_event ?hg (N := 4) ?hd (cs := #[.int .i64 0, .int .i64 0, .int .i64 0, .int .i64 0, .int .i64 0, .int .i64 0, .int .i64 0]) (t := 23) ?hr ?_; (case hd => rfl); (case hg => rfl); (case hr => first | (go_simp; done) | (go_simp; rfl)); intro gr hg w3 hbox hb; have GR := Aside0.mk (bsz (bl HB.out) hg : w.heap.size ≤ gr); replace BA := Aside0.mk (blk_below (kp BA.out) hb); replace BB := Aside0.mk (blk_below (kp BB.out) hb); have BR := Aside0.mk hbox; replace HB := Aside0.mk (below_step (bl HB.out) hb); obtain ⟨x0, x1, x2, x3, x4, x5, x6⟩ := hc7 BA.out; have y0 := hc1 BB.out; clear hbox hb hg)
      | (go_at_call 48; (with_reducible refine (dims_Right.calls a0_0 a0_1 a0_2 a0_3 a0_4 a0_5 a0_6 _ _ HA.out).mono ?_); rintro e wa ⟨rfl, hb⟩; replace BA := Aside0.mk (blk_below (kp BA.out) hb); replace BB := Aside0.mk (blk_below (kp BB.out) hb); replace BR := Aside0.mk (blk_below (kp BR.out) hb); replace HB := Aside0.mk (below_step (bl HB.out) hb); clear hb x0 x1 x2 x3 x4 x5 x6 y0; obtain ⟨x0, x1, x2, x3, x4, x5, x6⟩ := hc7 BA.out; have y0 := hc1 BB.out)
      | (go_at_call 61; (with_reducible refine (each28_calls _ _ _ (wrap64 (a0_0 * a1)) (wrap64 (a0_1 * a1)) (wrap64 (a0_2 * a1)) (wrap64 (a0_3 * a1)) (wrap64 (a0_4 * a1)) (wrap64 (a0_5 * a1)) (wrap64 (a0_6 * a1)) _ (fun W hW => ⟨times1_0 a0_0 a0_1 a0_2 a0_3 a0_4 a0_5 a0_6 a1 ga gb W (blk_below (kp BA.out) hW) (blk_below (kp BB.out) hW), times1_1 a0_0 a0_1 a0_2 a0_3 a0_4 a0_5 a0_6 a1 ga gb W (blk_below (kp BA.out) hW) (blk_below (kp BB.out) hW), times1_2 a0_0 a0_1 a0_2 a0_3 a0_4 a0_5 a0_6 a1 ga gb W (blk_below (kp BA.out) hW) (blk_below (kp BB.out) hW), times1_3 a0_0 a0_1 a0_2 a0_3 a0_4 a0_5 a0_6 a1 ga gb W (blk_below (kp BA.out) hW) (blk_below (kp BB.out) hW), times1_4 a0_0 a0_1 a0_2 a0_3 a0_4 a0_5 a0_6 a1 ga gb W (blk_below (kp BA.out) hW) (blk_below (kp BB.out) hW), times1_5 a0_0 a0_1 a0_2 a0_3 a0_4 a0_5 a0_6 a1 ga gb W (blk_below (kp BA.out) hW) (blk_below (kp BB.out) hW), times1_6 a0_0 a0_1 a0_2 a0_3 a0_4 a0_5 a0_6 a1 ga gb W (blk_below (kp BA.out) hW) (blk_below (kp BB.out) hW)⟩) r0 r1 r2 r3 r4 r5 r6 r7 HR.out).mono ?_); rintro e wc ⟨rfl, hb⟩; replace BA := Aside0.mk (blk_below (kp BA.out) hb); replace BB := Aside0.mk (blk_below (kp BB.out) hb); replace BR := Aside0.mk (blk_below (kp BR.out) hb); replace HB := Aside0.mk (below_step (bl HB.out) hb); clear hb x0 x1 x2 x3 x4 x5 x6 y0; obtain ⟨q0, q1, q2, q3, q4, q5, q6⟩ := hc7 BR.out; obtain ⟨s0, s1, s2, s3, s4, s5, s6⟩ := hf7 BR.out))
    refine bodyPost_ret (results_ct rfl _ _ gr 23 #[.int .i64 r0, .int .i64 r1, .int .i64 r2, .int .i64 r3, .int .i64 r4, .int .i64 r5, .int .i64 r6] (0, 0) _ rfl (kp (p7_6 (kp (p7_5 (kp (p7_4 (kp (p7_3 (kp (p7_2 (kp (p7_1 (kp (p7_0 (kp BR.out))))))))))))))) hu rfl (by kernel_rfl)) rfl ?_
    exact ⟨rfl, bl HB.out⟩)
end Go.Proofs.YthfibffgmoblaaaDoor
