/- worth's Mul, Div and Pow: what is done with numbers, and dims, or the first error. Its conditions: the listed variables as they were laid. -/
import Derived.Test.YthfibffgmoblaaaDoorWa
import Derived.Test.YthfibffgmoblaaaDoorPRx
import Derived.Test.YthfibffgmoblaaaDoorPDx
import Derived.Test.YthfibffgmoblaaaDoorDi5
namespace Go.Proofs.YthfibffgmoblaaaDoor
open Go Go.RowKit Go.Proofs.YthfibffgmoblaaaDoor.Di Go.Proofs.YthfibffgmoblaaaDoor.Sq Go.Proofs.YthfibffgmoblaaaDoorW.PrintWords Go.Proofs.YthfibffgmoblaaaDoorW.PrintLast Go.Proofs.YthfibffgmoblaaaDoorW.PrintMore Go.Proofs.YthfibffgmoblaaaDoor.PB Go.Proofs.YthfibffgmoblaaaDoor.PC Go.Proofs.YthfibffgmoblaaaDoor.PD Go.Proofs.YthfibffgmoblaaaDoor.PR
attribute [local go_sem] max2_int min2_int max_two min_two max_three min_three max_four min_four   -- for this text's walks alone
set_option linter.unusedVariables false
set_option linter.unusedSimpArgs false
set_option maxRecDepth 100000
set_option maxHeartbeats 4000000 in
theorem clo37 (k : Nat) (a0_0 a0_1 a0_2 a0_3 a0_4 a0_5 a0_6 a0_7 a0_8 a0_9 a0_10 n : Int) (f1 f2 f3 f4 : Int) (gA gB : Nat) (w : World) (hG : Glob [0, 1] w) (hA : w.heap[gA]? = some (.cells #[.int .i64 a0_0, .int .i64 a0_1, .int .i64 a0_2, .int .i64 a0_3, .int .i64 a0_4, .int .i64 a0_5, .int .i64 a0_6, .int .i64 a0_7, .int .i64 a0_8, .int .i64 a0_9, .int .i64 a0_10] 31 (0, 0))) (hB : w.heap[gB]? = some (.cells #[.int .i64 n] 3 (0, 0))) (h : frac_Pow.f k a0_0 a0_1 a0_2 n = some (f1, f2, f3, f4)) :
    Calls Tryd.prog 37 #[.pointer (some ⟨gA, 0, none⟩), .pointer (some ⟨gB, 0, none⟩)] w fun e w' => e = .returned (.tuple #[.agg #[.int .i64 f1, .int .i64 f2, .int .i64 f3], .int .i64 f4]) ∧ Below w.heap.size w w' := by
  have hu := Tryd.underlying29
  have HC := Aside0.mk h
  have BA := Aside0.mk hA
  have BB := Aside0.mk hB
  have HB := Aside0.mk (Below.refl w.heap.size w)
  clear h hA hB
  go_enter Tryd.func37, Tryd.ntmps37
  go_wp2_with (first
    | ((with_reducible refine gate_dst (N := 2) rfl ?_); refine box_event ?hg (N := 2) ?hd (cs := #[.int .i64 0, .int .i64 0, .int .i64 0]) (t := 29) ?hr ?_; (case hd => rfl); (case hg => rfl); (case hr => first | (go_simp; done) | (go_simp; rfl)); intro gR hg_ wR_ hbox hb; have GR := zb HB hg_; have NAR := nk BA hg_; have NRA := nl_ BA hg_; have NBR := nk BB hg_; have NRB := nl_ BB hg_; replace BA := kb BA hb; replace BB := kb BB hb; replace HB := sb HB hb; have BR := Aside0.mk hbox; obtain ⟨cA0_, cA1_, cA2_, cA3_, cA4_, cA5_, cA6_, cA7_, cA8_, cA9_, cA10_⟩ := hc11 BA.out; have cB0_ := hc1 BB.out; clear hbox hb hg_)
    | (go_at_call 38; (with_reducible refine (frac_Pow.calls k a0_0 a0_1 a0_2 n f1 f2 f3 f4 _ (Glob.use hG rfl (bl HB.out)) HC.out).mono ?_); rintro e w1_ ⟨rfl, hb⟩; replace BA := kb BA hb; replace BB := kb BB hb; replace BR := kb BR hb; replace HB := sb HB hb; clear hb cA0_ cA1_ cA2_ cA3_ cA4_ cA5_ cA6_ cA7_ cA8_ cA9_ cA10_ cB0_; obtain ⟨q0, q1, q2⟩ := hc3 BR.out; obtain ⟨s0, s1, s2⟩ := hf3 BR.out))
  refine bodyPost_ret (results_ct rfl _ _ gR 29 #[.int .i64 f1, .int .i64 f2, .int .i64 f3] (0, 0) _ rfl (kp (p3_2 (kp (p3_1 (kp (p3_0 (kp BR.out))))))) hu rfl (by kernel_rfl)) rfl ?_
  exact ⟨rfl, bl HB.out⟩
set_option maxHeartbeats 4000000 in
theorem clo39 (a0_0 a0_1 a0_2 a0_3 a0_4 a0_5 a0_6 a0_7 a0_8 a0_9 a0_10 n : Int) (d1 d2 d3 d4 d5 d6 d7 : Int) (d8 : Bool) (gA gB : Nat) (w : World) (hA : w.heap[gA]? = some (.cells #[.int .i64 a0_0, .int .i64 a0_1, .int .i64 a0_2, .int .i64 a0_3, .int .i64 a0_4, .int .i64 a0_5, .int .i64 a0_6, .int .i64 a0_7, .int .i64 a0_8, .int .i64 a0_9, .int .i64 a0_10] 31 (0, 0))) (hB : w.heap[gB]? = some (.cells #[.int .i64 n] 3 (0, 0))) (h : dims_Times.f a0_3 a0_4 a0_5 a0_6 a0_7 a0_8 a0_9 n = some (d1, d2, d3, d4, d5, d6, d7, d8)) :
    Calls Tryd.prog 39 #[.pointer (some ⟨gA, 0, none⟩), .pointer (some ⟨gB, 0, none⟩)] w fun e w' => e = .returned (.tuple #[.agg #[.int .i64 d1, .int .i64 d2, .int .i64 d3, .int .i64 d4, .int .i64 d5, .int .i64 d6, .int .i64 d7], .bool d8]) ∧ Below w.heap.size w w' := by
  have hu := Tryd.underlying23
  have HC := Aside0.mk h
  have BA := Aside0.mk hA
  have BB := Aside0.mk hB
  have HB := Aside0.mk (Below.refl w.heap.size w)
  clear h hA hB
  go_enter Tryd.func39, Tryd.ntmps39
  go_wp2_with (first
    | ((with_reducible refine gate_dst (N := 2) rfl ?_); refine box_event ?hg (N := 2) ?hd (cs := #[.int .i64 0, .int .i64 0, .int .i64 0, .int .i64 0, .int .i64 0, .int .i64 0, .int .i64 0]) (t := 23) ?hr ?_; (case hd => rfl); (case hg => rfl); (case hr => first | (go_simp; done) | (go_simp; rfl)); intro gR hg_ wR_ hbox hb; have GR := zb HB hg_; have NAR := nk BA hg_; have NRA := nl_ BA hg_; have NBR := nk BB hg_; have NRB := nl_ BB hg_; replace BA := kb BA hb; replace BB := kb BB hb; replace HB := sb HB hb; have BR := Aside0.mk hbox; obtain ⟨cA0_, cA1_, cA2_, cA3_, cA4_, cA5_, cA6_, cA7_, cA8_, cA9_, cA10_⟩ := hc11 BA.out; have cB0_ := hc1 BB.out; clear hbox hb hg_)
    | (go_at_call 40; (with_reducible refine (dims_Times.calls a0_3 a0_4 a0_5 a0_6 a0_7 a0_8 a0_9 n d1 d2 d3 d4 d5 d6 d7 d8 _ HC.out).mono ?_); rintro e w1_ ⟨rfl, hb⟩; replace BA := kb BA hb; replace BB := kb BB hb; replace BR := kb BR hb; replace HB := sb HB hb; clear hb cA0_ cA1_ cA2_ cA3_ cA4_ cA5_ cA6_ cA7_ cA8_ cA9_ cA10_ cB0_; obtain ⟨q0, q1, q2, q3, q4, q5, q6⟩ := hc7 BR.out; obtain ⟨s0, s1, s2, s3, s4, s5, s6⟩ := hf7 BR.out))
  refine bodyPost_ret (results_ct rfl _ _ gR 23 #[.int .i64 d1, .int .i64 d2, .int .i64 d3, .int .i64 d4, .int .i64 d5, .int .i64 d6, .int .i64 d7] (0, 0) _ rfl (kp (p7_6 (kp (p7_5 (kp (p7_4 (kp (p7_3 (kp (p7_2 (kp (p7_1 (kp (p7_0 (kp BR.out))))))))))))))) hu rfl (by kernel_rfl)) rfl ?_
  exact ⟨rfl, bl HB.out⟩
def worth_Pow.put (k : Nat) (a0_0 a0_1 a0_2 a0_3 a0_4 a0_5 a0_6 a0_7 a0_8 a0_9 a0_10 n : Int) : Option W12 := (worth_Right.f k a0_0 a0_1 a0_2 a0_3 a0_4 a0_5 a0_6 a0_7 a0_8 a0_9 a0_10).bind fun ra => if ra = true then (if a0_10 = 0 then ((frac_Pow.f k a0_0 a0_1 a0_2 n).bind fun f => if f.2.2.2 = 0 then (dims_Times.f a0_3 a0_4 a0_5 a0_6 a0_7 a0_8 a0_9 n).bind fun d => some (if d.2.2.2.2.2.2.2 = true then (f.1, f.2.1, f.2.2.1, d.1, d.2.1, d.2.2.1, d.2.2.2.1, d.2.2.2.2.1, d.2.2.2.2.2.1, d.2.2.2.2.2.2.1, 0, 0) else noW 10) else some (noW f.2.2.2)) else some (noW 18)) else some (noW 1)
theorem worth_Pow.put.mono : ∀ a0_0 a0_1 a0_2 a0_3 a0_4 a0_5 a0_6 a0_7 a0_8 a0_9 a0_10 n k, LeO (worth_Pow.put k a0_0 a0_1 a0_2 a0_3 a0_4 a0_5 a0_6 a0_7 a0_8 a0_9 a0_10 n) (worth_Pow.put (k + 1) a0_0 a0_1 a0_2 a0_3 a0_4 a0_5 a0_6 a0_7 a0_8 a0_9 a0_10 n) := by
  intro a0_0 a0_1 a0_2 a0_3 a0_4 a0_5 a0_6 a0_7 a0_8 a0_9 a0_10 n k
  unfold worth_Pow.put
  repeat' first
    | (with_reducible exact LeO.refl _)
    | (with_reducible exact worth_Right.mono _ _ _ _ _ _ _ _ _ _ _ _)
    | (with_reducible exact frac_Pow.mono _ _ _ _ _)
    | (with_reducible refine LeO.ite ?_ ?_)
    | (with_reducible refine LeO.bind ?_ (fun _ => ?_))
set_option maxHeartbeats 16000000 in
theorem worth_Pow_put_calls (k : Nat) (a0_0 a0_1 a0_2 a0_3 a0_4 a0_5 a0_6 a0_7 a0_8 a0_9 a0_10 n : Int) (gA gB gS : Nat) (r1 r2 r3 r4 r5 r6 r7 r8 r9 r10 r11 r12 : Int) (w : World) (hG : Glob [0, 1] w) (hA : w.heap[gA]? = some (.cells #[.int .i64 a0_0, .int .i64 a0_1, .int .i64 a0_2, .int .i64 a0_3, .int .i64 a0_4, .int .i64 a0_5, .int .i64 a0_6, .int .i64 a0_7, .int .i64 a0_8, .int .i64 a0_9, .int .i64 a0_10] 31 (0, 0))) (hB : w.heap[gB]? = some (.cells #[.int .i64 n] 3 (0, 0))) (hS : w.heap[gS]? = some (.cells #[.int .i64 a0_0, .int .i64 a0_1, .int .i64 a0_2, .int .i64 a0_3, .int .i64 a0_4, .int .i64 a0_5, .int .i64 a0_6, .int .i64 a0_7, .int .i64 a0_8, .int .i64 a0_9, .int .i64 a0_10] 31 (0, 0))) (h : worth_Pow.put k a0_0 a0_1 a0_2 a0_3 a0_4 a0_5 a0_6 a0_7 a0_8 a0_9 a0_10 n = some (r1, r2, r3, r4, r5, r6, r7, r8, r9, r10, r11, r12)) :
    Calls Tryd.prog 27 #[.func (.func 37) #[] #[.pointer (some ⟨gA, 0, none⟩), .pointer (some ⟨gB, 0, none⟩)], .func (.func 39) #[] #[.pointer (some ⟨gA, 0, none⟩), .pointer (some ⟨gB, 0, none⟩)], .slice (some ⟨gS, 0, none⟩) 1 1] w fun e w' => e = .returned (.tuple #[.agg #[.int .i64 r1, .int .i64 r2, .int .i64 r3, .int .i64 r4, .int .i64 r5, .int .i64 r6, .int .i64 r7, .int .i64 r8, .int .i64 r9, .int .i64 r10, .int .i64 r11], .int .i64 r12]) ∧ Below w.heap.size w w' := by
  have hu := Tryd.underlying31
  have BA := Aside0.mk hA
  have BB := Aside0.mk hB
  have BS := Aside0.mk hS
  have HB := Aside0.mk (Below.refl w.heap.size w)
  clear hA hB hS
  unfold worth_Pow.put at h
  replace h := Option.bind_eq_some_iff.mp h
  obtain ⟨ra, hra, h⟩ := h
  cases ra
  case false =>
    rw [if_neg (by simp)] at h
    simp only [noW, Option.some.injEq, Prod.mk.injEq] at h
    obtain ⟨rfl, rfl, rfl, rfl, rfl, rfl, rfl, rfl, rfl, rfl, rfl, rfl⟩ := h
    have RA := Aside0.mk hra
    clear hra
    go_enter Tryd.func27, Tryd.ntmps27
    go_wp2_with (first
      | ((with_reducible refine gate_dst (N := 6) rfl ?_); refine box_event ?hg (N := 6) ?hd (cs := #[.int .i64 0, .int .i64 0, .int .i64 0, .int .i64 0, .int .i64 0, .int .i64 0, .int .i64 0, .int .i64 0, .int .i64 0, .int .i64 0, .int .i64 0]) (t := 31) ?hr ?_; (case hd => rfl); (case hg => rfl); (case hr => first | (go_simp; done) | (go_simp; rfl)); intro gR hg_ wR_ hbox hb; have GR := zb HB hg_; have NAR := nk BA hg_; have NRA := nl_ BA hg_; have NBR := nk BB hg_; have NRB := nl_ BB hg_; have NSR := nk BS hg_; have NRS := nl_ BS hg_; replace BA := kb BA hb; replace BB := kb BB hb; replace BS := kb BS hb; replace HB := sb HB hb; have BR := Aside0.mk hbox; obtain ⟨cS0_, cS1_, cS2_, cS3_, cS4_, cS5_, cS6_, cS7_, cS8_, cS9_, cS10_⟩ := hc11 BS.out; clear hbox hb hg_))
    refine wp_loop_rounds 2 ?_
    rw [rounds_succ]
    have eTX := eqTag a0_0 a0_1 a0_2 a0_3 a0_4 a0_5 a0_6 a0_7 a0_8 a0_9 a0_10
    go_wp2_with (first
      | ((with_reducible refine gate_dst (N := 10) rfl ?_); refine box_event ?hg (N := 10) ?hd (cs := #[.int .i64 0, .int .i64 0, .int .i64 0, .int .i64 0, .int .i64 0, .int .i64 0, .int .i64 0, .int .i64 0, .int .i64 0, .int .i64 0, .int .i64 0]) (t := 31) ?hr ?_; (case hd => rfl); (case hg => rfl); (case hr => first | (go_simp; done) | (go_simp; rfl)); intro gX hg_ wX_ hbox hb; have GX := zb HB hg_; have NAX := nk BA hg_; have NXA := nl_ BA hg_; have NBX := nk BB hg_; have NXB := nl_ BB hg_; have NSX := nk BS hg_; have NXS := nl_ BS hg_; have NRX := nk BR hg_; have NXR := nl_ BR hg_; replace BA := kb BA hb; replace BB := kb BB hb; replace BS := kb BS hb; replace BR := kb BR hb; replace HB := sb HB hb; have BX := Aside0.mk hbox; clear cS0_ cS1_ cS2_ cS3_ cS4_ cS5_ cS6_ cS7_ cS8_ cS9_ cS10_; obtain ⟨cS0_, cS1_, cS2_, cS3_, cS4_, cS5_, cS6_, cS7_, cS8_, cS9_, cS10_⟩ := hc11 BS.out; obtain ⟨fX0_, fX1_, fX2_, fX3_, fX4_, fX5_, fX6_, fX7_, fX8_, fX9_, fX10_⟩ := hf11 BX.out; obtain ⟨cX0_, cX1_, cX2_, cX3_, cX4_, cX5_, cX6_, cX7_, cX8_, cX9_, cX10_⟩ := hc11 BX.out; clear hbox hb hg_)
      | (go_at_call 19; (with_reducible refine (worth_Right.calls k a0_0 a0_1 a0_2 a0_3 a0_4 a0_5 a0_6 a0_7 a0_8 a0_9 a0_10 false _ RA.out).mono ?_); rintro e wX2_ ⟨rfl, hb⟩; replace BA := kb BA hb; replace BB := kb BB hb; replace BS := kb BS hb; replace BR := kb BR hb; replace BX := Aside0.mk (blk_below (put11 (kp BX.out)) hb); replace HB := sb HB hb; clear hb cS0_ cS1_ cS2_ cS3_ cS4_ cS5_ cS6_ cS7_ cS8_ cS9_ cS10_ cX0_ cX1_ cX2_ cX3_ cX4_ cX5_ cX6_ cX7_ cX8_ cX9_ cX10_ fX0_ fX1_ fX2_ fX3_ fX4_ fX5_ fX6_ fX7_ fX8_ fX9_ fX10_; obtain ⟨cR0_, cR1_, cR2_, cR3_, cR4_, cR5_, cR6_, cR7_, cR8_, cR9_, cR10_⟩ := hc11 BR.out; obtain ⟨fR0_, fR1_, fR2_, fR3_, fR4_, fR5_, fR6_, fR7_, fR8_, fR9_, fR10_⟩ := hf11 BR.out))
    refine bodyPost_ret (results_ct rfl _ _ gR 31 #[.int .i64 0, .int .i64 0, .int .i64 0, .int .i64 0, .int .i64 0, .int .i64 0, .int .i64 0, .int .i64 0, .int .i64 0, .int .i64 0, .int .i64 0] (0, 0) _ rfl (put11 (kp BR.out)) hu rfl (by kernel_rfl)) rfl ?_
    exact ⟨rfl, bl HB.out⟩
  rw [if_pos rfl] at h
  have RA := Aside0.mk hra
  clear hra
  by_cases ha : a0_10 = 0
  · have bA1 : (a0_10 == 0) = true := beq_iff_eq.mpr ha
    rw [if_pos ha] at h
    clear ha
    replace h := Option.bind_eq_some_iff.mp h
    obtain ⟨⟨f1, f2, f3, f4⟩, hf, h⟩ := h
    by_cases hz : f4 = 0
    · have hz := hz
      subst hz
      rw [if_pos rfl] at h
      have HF := Aside0.mk hf
      clear hf
      replace h := Option.bind_eq_some_iff.mp h
      obtain ⟨⟨d1, d2, d3, d4, d5, d6, d7, d8⟩, hd, h⟩ := h
      have HD := Aside0.mk hd
      clear hd
      cases d8
      case false =>
        replace h : some (noW 10) = some (r1, r2, r3, r4, r5, r6, r7, r8, r9, r10, r11, r12) := h
        simp only [noW, Option.some.injEq, Prod.mk.injEq] at h
        obtain ⟨rfl, rfl, rfl, rfl, rfl, rfl, rfl, rfl, rfl, rfl, rfl, rfl⟩ := h
        go_enter Tryd.func27, Tryd.ntmps27
        go_wp2_with (first
          | ((with_reducible refine gate_dst (N := 6) rfl ?_); refine box_event ?hg (N := 6) ?hd (cs := #[.int .i64 0, .int .i64 0, .int .i64 0, .int .i64 0, .int .i64 0, .int .i64 0, .int .i64 0, .int .i64 0, .int .i64 0, .int .i64 0, .int .i64 0]) (t := 31) ?hr ?_; (case hd => rfl); (case hg => rfl); (case hr => first | (go_simp; done) | (go_simp; rfl)); intro gR hg_ wR_ hbox hb; have GR := zb HB hg_; have NAR := nk BA hg_; have NRA := nl_ BA hg_; have NBR := nk BB hg_; have NRB := nl_ BB hg_; have NSR := nk BS hg_; have NRS := nl_ BS hg_; replace BA := kb BA hb; replace BB := kb BB hb; replace BS := kb BS hb; replace HB := sb HB hb; have BR := Aside0.mk hbox; obtain ⟨cS0_, cS1_, cS2_, cS3_, cS4_, cS5_, cS6_, cS7_, cS8_, cS9_, cS10_⟩ := hc11 BS.out; clear hbox hb hg_))
        refine wp_loop_rounds 2 ?_
        rw [rounds_succ]
        have eTX := eqTag a0_0 a0_1 a0_2 a0_3 a0_4 a0_5 a0_6 a0_7 a0_8 a0_9 a0_10
        go_wp2_with (first
          | ((with_reducible refine gate_dst (N := 10) rfl ?_); refine box_event ?hg (N := 10) ?hd (cs := #[.int .i64 0, .int .i64 0, .int .i64 0, .int .i64 0, .int .i64 0, .int .i64 0, .int .i64 0, .int .i64 0, .int .i64 0, .int .i64 0, .int .i64 0]) (t := 31) ?hr ?_; (case hd => rfl); (case hg => rfl); (case hr => first | (go_simp; done) | (go_simp; rfl)); intro gX hg_ wX_ hbox hb; have GX := zb HB hg_; have NAX := nk BA hg_; have NXA := nl_ BA hg_; have NBX := nk BB hg_; have NXB := nl_ BB hg_; have NSX := nk BS hg_; have NXS := nl_ BS hg_; have NRX := nk BR hg_; have NXR := nl_ BR hg_; replace BA := kb BA hb; replace BB := kb BB hb; replace BS := kb BS hb; replace BR := kb BR hb; replace HB := sb HB hb; have BX := Aside0.mk hbox; clear cS0_ cS1_ cS2_ cS3_ cS4_ cS5_ cS6_ cS7_ cS8_ cS9_ cS10_; obtain ⟨cS0_, cS1_, cS2_, cS3_, cS4_, cS5_, cS6_, cS7_, cS8_, cS9_, cS10_⟩ := hc11 BS.out; obtain ⟨fX0_, fX1_, fX2_, fX3_, fX4_, fX5_, fX6_, fX7_, fX8_, fX9_, fX10_⟩ := hf11 BX.out; obtain ⟨cX0_, cX1_, cX2_, cX3_, cX4_, cX5_, cX6_, cX7_, cX8_, cX9_, cX10_⟩ := hc11 BX.out; clear hbox hb hg_)
          | (go_at_call 19; (with_reducible refine (worth_Right.calls k a0_0 a0_1 a0_2 a0_3 a0_4 a0_5 a0_6 a0_7 a0_8 a0_9 a0_10 true _ RA.out).mono ?_); rintro e wX2_ ⟨rfl, hb⟩; replace BA := kb BA hb; replace BB := kb BB hb; replace BS := kb BS hb; replace BR := kb BR hb; replace BX := Aside0.mk (blk_below (put11 (kp BX.out)) hb); replace HB := sb HB hb; clear hb cS0_ cS1_ cS2_ cS3_ cS4_ cS5_ cS6_ cS7_ cS8_ cS9_ cS10_ cX0_ cX1_ cX2_ cX3_ cX4_ cX5_ cX6_ cX7_ cX8_ cX9_ cX10_ fX0_ fX1_ fX2_ fX3_ fX4_ fX5_ fX6_ fX7_ fX8_ fX9_ fX10_; obtain ⟨cX0_, cX1_, cX2_, cX3_, cX4_, cX5_, cX6_, cX7_, cX8_, cX9_, cX10_⟩ := hc11 BX.out; obtain ⟨cS0_, cS1_, cS2_, cS3_, cS4_, cS5_, cS6_, cS7_, cS8_, cS9_, cS10_⟩ := hc11 BS.out))
        clear cX0_ cX1_ cX2_ cX3_ cX4_ cX5_ cX6_ cX7_ cX8_ cX9_ cX10_
        rw [rounds_succ]
        clear cS0_ cS1_ cS2_ cS3_ cS4_ cS5_ cS6_ cS7_ cS8_ cS9_ cS10_
        go_wp2_with (first
          | (go_at_call 37; (with_reducible refine (clo37 k a0_0 a0_1 a0_2 a0_3 a0_4 a0_5 a0_6 a0_7 a0_8 a0_9 a0_10 n f1 f2 f3 0 gA gB _ (Glob.use hG rfl (bl HB.out)) (kp BA.out) (kp BB.out) HF.out).mono ?_); rintro e wF1_ ⟨rfl, hb⟩; replace BA := kb BA hb; replace BB := kb BB hb; replace BS := kb BS hb; replace BR := kb BR hb; replace BX := kb BX hb; replace HB := sb HB hb; clear hb)
          | ((with_reducible refine gate_dst (N := 11) rfl ?_); refine box_event ?hg (N := 11) ?hd (cs := #[.int .i64 0, .int .i64 0, .int .i64 0]) (t := 29) ?hr ?_; (case hd => rfl); (case hg => rfl); (case hr => first | (go_simp; done) | (go_simp; rfl)); intro gF hg_ wF_ hbox hb; have GF := zb HB hg_; have NAF := nk BA hg_; have NFA := nl_ BA hg_; have NBF := nk BB hg_; have NFB := nl_ BB hg_; have NSF := nk BS hg_; have NFS := nl_ BS hg_; have NRF := nk BR hg_; have NFR := nl_ BR hg_; have NXF := nk BX hg_; have NFX := nl_ BX hg_; replace BA := kb BA hb; replace BB := kb BB hb; replace BS := kb BS hb; replace BR := kb BR hb; replace BX := kb BX hb; replace HB := sb HB hb; have BF := Aside0.mk hbox; obtain ⟨cF0_, cF1_, cF2_⟩ := hc3 BF.out; obtain ⟨fF0_, fF1_, fF2_⟩ := hf3 BF.out; clear hbox hb hg_)
          | (go_at_call 39; (with_reducible refine (clo39 a0_0 a0_1 a0_2 a0_3 a0_4 a0_5 a0_6 a0_7 a0_8 a0_9 a0_10 n d1 d2 d3 d4 d5 d6 d7 false gA gB _ (kp BA.out) (kp BB.out) HD.out).mono ?_); rintro e wD1_ ⟨rfl, hb⟩; replace BA := kb BA hb; replace BB := kb BB hb; replace BS := kb BS hb; replace BR := kb BR hb; replace BX := kb BX hb; replace BF := Aside0.mk (blk_below (kp (p3_2 (kp (p3_1 (kp (p3_0 (kp BF.out))))))) hb); replace HB := sb HB hb; clear hb cF0_ cF1_ cF2_ fF0_ fF1_ fF2_)
          | ((with_reducible refine gate_dst (N := 12) rfl ?_); refine box_event ?hg (N := 12) ?hd (cs := #[.int .i64 0, .int .i64 0, .int .i64 0, .int .i64 0, .int .i64 0, .int .i64 0, .int .i64 0]) (t := 23) ?hr ?_; (case hd => rfl); (case hg => rfl); (case hr => first | (go_simp; done) | (go_simp; rfl)); intro gD hg_ wD_ hbox hb; have GD := zb HB hg_; have NAD := nk BA hg_; have NDA := nl_ BA hg_; have NBD := nk BB hg_; have NDB := nl_ BB hg_; have NSD := nk BS hg_; have NDS := nl_ BS hg_; have NRD := nk BR hg_; have NDR := nl_ BR hg_; have NXD := nk BX hg_; have NDX := nl_ BX hg_; have NFD := nk BF hg_; have NDF := nl_ BF hg_; replace BA := kb BA hb; replace BB := kb BB hb; replace BS := kb BS hb; replace BR := kb BR hb; replace BX := kb BX hb; replace BF := kb BF hb; replace HB := sb HB hb; have BD := Aside0.mk hbox; obtain ⟨cF0_, cF1_, cF2_⟩ := hc3 BF.out; obtain ⟨cD0_, cD1_, cD2_, cD3_, cD4_, cD5_, cD6_⟩ := hc7 BD.out; obtain ⟨fD0_, fD1_, fD2_, fD3_, fD4_, fD5_, fD6_⟩ := hf7 BD.out; obtain ⟨cR0_, cR1_, cR2_, cR3_, cR4_, cR5_, cR6_, cR7_, cR8_, cR9_, cR10_⟩ := hc11 BR.out; obtain ⟨fR0_, fR1_, fR2_, fR3_, fR4_, fR5_, fR6_, fR7_, fR8_, fR9_, fR10_⟩ := hf11 BR.out; have qDF := NDF.out; have qFD := NFD.out; have qDR := NDR.out; have qRD := NRD.out; have qFR := NFR.out; have qRF := NRF.out; clear hbox hb hg_))
        refine bodyPost_ret (results_ct rfl _ _ gR 31 #[.int .i64 0, .int .i64 0, .int .i64 0, .int .i64 0, .int .i64 0, .int .i64 0, .int .i64 0, .int .i64 0, .int .i64 0, .int .i64 0, .int .i64 0] (0, 0) _ rfl (put11 (kp BR.out)) hu rfl (by kernel_rfl)) rfl ?_
        exact ⟨rfl, bl HB.out⟩
      case true =>
        replace h : some ((f1, f2, f3, d1, d2, d3, d4, d5, d6, d7, 0, 0) : W12) = some (r1, r2, r3, r4, r5, r6, r7, r8, r9, r10, r11, r12) := h
        simp only [noW, Option.some.injEq, Prod.mk.injEq] at h
        obtain ⟨rfl, rfl, rfl, rfl, rfl, rfl, rfl, rfl, rfl, rfl, rfl, rfl⟩ := h
        go_enter Tryd.func27, Tryd.ntmps27
        go_wp2_with (first
          | ((with_reducible refine gate_dst (N := 6) rfl ?_); refine box_event ?hg (N := 6) ?hd (cs := #[.int .i64 0, .int .i64 0, .int .i64 0, .int .i64 0, .int .i64 0, .int .i64 0, .int .i64 0, .int .i64 0, .int .i64 0, .int .i64 0, .int .i64 0]) (t := 31) ?hr ?_; (case hd => rfl); (case hg => rfl); (case hr => first | (go_simp; done) | (go_simp; rfl)); intro gR hg_ wR_ hbox hb; have GR := zb HB hg_; have NAR := nk BA hg_; have NRA := nl_ BA hg_; have NBR := nk BB hg_; have NRB := nl_ BB hg_; have NSR := nk BS hg_; have NRS := nl_ BS hg_; replace BA := kb BA hb; replace BB := kb BB hb; replace BS := kb BS hb; replace HB := sb HB hb; have BR := Aside0.mk hbox; obtain ⟨cS0_, cS1_, cS2_, cS3_, cS4_, cS5_, cS6_, cS7_, cS8_, cS9_, cS10_⟩ := hc11 BS.out; clear hbox hb hg_))
        refine wp_loop_rounds 2 ?_
        rw [rounds_succ]
        have eTX := eqTag a0_0 a0_1 a0_2 a0_3 a0_4 a0_5 a0_6 a0_7 a0_8 a0_9 a0_10
        go_wp2_with (first
          | ((with_reducible refine gate_dst (N := 10) rfl ?_); refine box_event ?hg (N := 10) ?hd (cs := #[.int .i64 0, .int .i64 0, .int .i64 0, .int .i64 0, .int .i64 0, .int .i64 0, .int .i64 0, .int .i64 0, .int .i64 0, .int .i64 0, .int .i64 0]) (t := 31) ?hr ?_; (case hd => rfl); (case hg => rfl); (case hr => first | (go_simp; done) | (go_simp; rfl)); intro gX hg_ wX_ hbox hb; have GX := zb HB hg_; have NAX := nk BA hg_; have NXA := nl_ BA hg_; have NBX := nk BB hg_; have NXB := nl_ BB hg_; have NSX := nk BS hg_; have NXS := nl_ BS hg_; have NRX := nk BR hg_; have NXR := nl_ BR hg_; replace BA := kb BA hb; replace BB := kb BB hb; replace BS := kb BS hb; replace BR := kb BR hb; replace HB := sb HB hb; have BX := Aside0.mk hbox; clear cS0_ cS1_ cS2_ cS3_ cS4_ cS5_ cS6_ cS7_ cS8_ cS9_ cS10_; obtain ⟨cS0_, cS1_, cS2_, cS3_, cS4_, cS5_, cS6_, cS7_, cS8_, cS9_, cS10_⟩ := hc11 BS.out; obtain ⟨fX0_, fX1_, fX2_, fX3_, fX4_, fX5_, fX6_, fX7_, fX8_, fX9_, fX10_⟩ := hf11 BX.out; obtain ⟨cX0_, cX1_, cX2_, cX3_, cX4_, cX5_, cX6_, cX7_, cX8_, cX9_, cX10_⟩ := hc11 BX.out; clear hbox hb hg_)
          | (go_at_call 19; (with_reducible refine (worth_Right.calls k a0_0 a0_1 a0_2 a0_3 a0_4 a0_5 a0_6 a0_7 a0_8 a0_9 a0_10 true _ RA.out).mono ?_); rintro e wX2_ ⟨rfl, hb⟩; replace BA := kb BA hb; replace BB := kb BB hb; replace BS := kb BS hb; replace BR := kb BR hb; replace BX := Aside0.mk (blk_below (put11 (kp BX.out)) hb); replace HB := sb HB hb; clear hb cS0_ cS1_ cS2_ cS3_ cS4_ cS5_ cS6_ cS7_ cS8_ cS9_ cS10_ cX0_ cX1_ cX2_ cX3_ cX4_ cX5_ cX6_ cX7_ cX8_ cX9_ cX10_ fX0_ fX1_ fX2_ fX3_ fX4_ fX5_ fX6_ fX7_ fX8_ fX9_ fX10_; obtain ⟨cX0_, cX1_, cX2_, cX3_, cX4_, cX5_, cX6_, cX7_, cX8_, cX9_, cX10_⟩ := hc11 BX.out; obtain ⟨cS0_, cS1_, cS2_, cS3_, cS4_, cS5_, cS6_, cS7_, cS8_, cS9_, cS10_⟩ := hc11 BS.out))
        clear cX0_ cX1_ cX2_ cX3_ cX4_ cX5_ cX6_ cX7_ cX8_ cX9_ cX10_
        rw [rounds_succ]
        clear cS0_ cS1_ cS2_ cS3_ cS4_ cS5_ cS6_ cS7_ cS8_ cS9_ cS10_
        go_wp2_with (first
          | (go_at_call 37; (with_reducible refine (clo37 k a0_0 a0_1 a0_2 a0_3 a0_4 a0_5 a0_6 a0_7 a0_8 a0_9 a0_10 n f1 f2 f3 0 gA gB _ (Glob.use hG rfl (bl HB.out)) (kp BA.out) (kp BB.out) HF.out).mono ?_); rintro e wF1_ ⟨rfl, hb⟩; replace BA := kb BA hb; replace BB := kb BB hb; replace BS := kb BS hb; replace BR := kb BR hb; replace BX := kb BX hb; replace HB := sb HB hb; clear hb)
          | ((with_reducible refine gate_dst (N := 11) rfl ?_); refine box_event ?hg (N := 11) ?hd (cs := #[.int .i64 0, .int .i64 0, .int .i64 0]) (t := 29) ?hr ?_; (case hd => rfl); (case hg => rfl); (case hr => first | (go_simp; done) | (go_simp; rfl)); intro gF hg_ wF_ hbox hb; have GF := zb HB hg_; have NAF := nk BA hg_; have NFA := nl_ BA hg_; have NBF := nk BB hg_; have NFB := nl_ BB hg_; have NSF := nk BS hg_; have NFS := nl_ BS hg_; have NRF := nk BR hg_; have NFR := nl_ BR hg_; have NXF := nk BX hg_; have NFX := nl_ BX hg_; replace BA := kb BA hb; replace BB := kb BB hb; replace BS := kb BS hb; replace BR := kb BR hb; replace BX := kb BX hb; replace HB := sb HB hb; have BF := Aside0.mk hbox; obtain ⟨cF0_, cF1_, cF2_⟩ := hc3 BF.out; obtain ⟨fF0_, fF1_, fF2_⟩ := hf3 BF.out; clear hbox hb hg_)
          | (go_at_call 39; (with_reducible refine (clo39 a0_0 a0_1 a0_2 a0_3 a0_4 a0_5 a0_6 a0_7 a0_8 a0_9 a0_10 n d1 d2 d3 d4 d5 d6 d7 true gA gB _ (kp BA.out) (kp BB.out) HD.out).mono ?_); rintro e wD1_ ⟨rfl, hb⟩; replace BA := kb BA hb; replace BB := kb BB hb; replace BS := kb BS hb; replace BR := kb BR hb; replace BX := kb BX hb; replace BF := Aside0.mk (blk_below (kp (p3_2 (kp (p3_1 (kp (p3_0 (kp BF.out))))))) hb); replace HB := sb HB hb; clear hb cF0_ cF1_ cF2_ fF0_ fF1_ fF2_)
          | ((with_reducible refine gate_dst (N := 12) rfl ?_); refine box_event ?hg (N := 12) ?hd (cs := #[.int .i64 0, .int .i64 0, .int .i64 0, .int .i64 0, .int .i64 0, .int .i64 0, .int .i64 0]) (t := 23) ?hr ?_; (case hd => rfl); (case hg => rfl); (case hr => first | (go_simp; done) | (go_simp; rfl)); intro gD hg_ wD_ hbox hb; have GD := zb HB hg_; have NAD := nk BA hg_; have NDA := nl_ BA hg_; have NBD := nk BB hg_; have NDB := nl_ BB hg_; have NSD := nk BS hg_; have NDS := nl_ BS hg_; have NRD := nk BR hg_; have NDR := nl_ BR hg_; have NXD := nk BX hg_; have NDX := nl_ BX hg_; have NFD := nk BF hg_; have NDF := nl_ BF hg_; replace BA := kb BA hb; replace BB := kb BB hb; replace BS := kb BS hb; replace BR := kb BR hb; replace BX := kb BX hb; replace BF := kb BF hb; replace HB := sb HB hb; have BD := Aside0.mk hbox; obtain ⟨cF0_, cF1_, cF2_⟩ := hc3 BF.out; obtain ⟨cD0_, cD1_, cD2_, cD3_, cD4_, cD5_, cD6_⟩ := hc7 BD.out; obtain ⟨fD0_, fD1_, fD2_, fD3_, fD4_, fD5_, fD6_⟩ := hf7 BD.out; obtain ⟨cR0_, cR1_, cR2_, cR3_, cR4_, cR5_, cR6_, cR7_, cR8_, cR9_, cR10_⟩ := hc11 BR.out; obtain ⟨fR0_, fR1_, fR2_, fR3_, fR4_, fR5_, fR6_, fR7_, fR8_, fR9_, fR10_⟩ := hf11 BR.out; have qDF := NDF.out; have qFD := NFD.out; have qDR := NDR.out; have qRD := NRD.out; have qFR := NFR.out; have qRF := NRF.out; clear hbox hb hg_))
        refine bodyPost_ret (results_ct rfl _ _ gR 31 #[.int .i64 f1, .int .i64 f2, .int .i64 f3, .int .i64 d1, .int .i64 d2, .int .i64 d3, .int .i64 d4, .int .i64 d5, .int .i64 d6, .int .i64 d7, .int .i64 0] (0, 0) _ rfl (put11 (kp BR.out)) hu rfl (by kernel_rfl)) rfl ?_
        exact ⟨rfl, bl HB.out⟩
    · rw [if_neg hz] at h
      have hz1 : (f4 != 0) = true := bne_iff_ne.mpr hz
      have hz2 : (f4 == 0) = false := beq_eq_false_iff_ne.mpr hz
      have HF := Aside0.mk hf
      clear hf hz
      simp only [noW, Option.some.injEq, Prod.mk.injEq] at h
      obtain ⟨rfl, rfl, rfl, rfl, rfl, rfl, rfl, rfl, rfl, rfl, rfl, rfl⟩ := h
      go_enter Tryd.func27, Tryd.ntmps27
      go_wp2_with (first
        | ((with_reducible refine gate_dst (N := 6) rfl ?_); refine box_event ?hg (N := 6) ?hd (cs := #[.int .i64 0, .int .i64 0, .int .i64 0, .int .i64 0, .int .i64 0, .int .i64 0, .int .i64 0, .int .i64 0, .int .i64 0, .int .i64 0, .int .i64 0]) (t := 31) ?hr ?_; (case hd => rfl); (case hg => rfl); (case hr => first | (go_simp; done) | (go_simp; rfl)); intro gR hg_ wR_ hbox hb; have GR := zb HB hg_; have NAR := nk BA hg_; have NRA := nl_ BA hg_; have NBR := nk BB hg_; have NRB := nl_ BB hg_; have NSR := nk BS hg_; have NRS := nl_ BS hg_; replace BA := kb BA hb; replace BB := kb BB hb; replace BS := kb BS hb; replace HB := sb HB hb; have BR := Aside0.mk hbox; obtain ⟨cS0_, cS1_, cS2_, cS3_, cS4_, cS5_, cS6_, cS7_, cS8_, cS9_, cS10_⟩ := hc11 BS.out; clear hbox hb hg_))
      refine wp_loop_rounds 2 ?_
      rw [rounds_succ]
      have eTX := eqTag a0_0 a0_1 a0_2 a0_3 a0_4 a0_5 a0_6 a0_7 a0_8 a0_9 a0_10
      go_wp2_with (first
        | ((with_reducible refine gate_dst (N := 10) rfl ?_); refine box_event ?hg (N := 10) ?hd (cs := #[.int .i64 0, .int .i64 0, .int .i64 0, .int .i64 0, .int .i64 0, .int .i64 0, .int .i64 0, .int .i64 0, .int .i64 0, .int .i64 0, .int .i64 0]) (t := 31) ?hr ?_; (case hd => rfl); (case hg => rfl); (case hr => first | (go_simp; done) | (go_simp; rfl)); intro gX hg_ wX_ hbox hb; have GX := zb HB hg_; have NAX := nk BA hg_; have NXA := nl_ BA hg_; have NBX := nk BB hg_; have NXB := nl_ BB hg_; have NSX := nk BS hg_; have NXS := nl_ BS hg_; have NRX := nk BR hg_; have NXR := nl_ BR hg_; replace BA := kb BA hb; replace BB := kb BB hb; replace BS := kb BS hb; replace BR := kb BR hb; replace HB := sb HB hb; have BX := Aside0.mk hbox; clear cS0_ cS1_ cS2_ cS3_ cS4_ cS5_ cS6_ cS7_ cS8_ cS9_ cS10_; obtain ⟨cS0_, cS1_, cS2_, cS3_, cS4_, cS5_, cS6_, cS7_, cS8_, cS9_, cS10_⟩ := hc11 BS.out; obtain ⟨fX0_, fX1_, fX2_, fX3_, fX4_, fX5_, fX6_, fX7_, fX8_, fX9_, fX10_⟩ := hf11 BX.out; obtain ⟨cX0_, cX1_, cX2_, cX3_, cX4_, cX5_, cX6_, cX7_, cX8_, cX9_, cX10_⟩ := hc11 BX.out; clear hbox hb hg_)
        | (go_at_call 19; (with_reducible refine (worth_Right.calls k a0_0 a0_1 a0_2 a0_3 a0_4 a0_5 a0_6 a0_7 a0_8 a0_9 a0_10 true _ RA.out).mono ?_); rintro e wX2_ ⟨rfl, hb⟩; replace BA := kb BA hb; replace BB := kb BB hb; replace BS := kb BS hb; replace BR := kb BR hb; replace BX := Aside0.mk (blk_below (put11 (kp BX.out)) hb); replace HB := sb HB hb; clear hb cS0_ cS1_ cS2_ cS3_ cS4_ cS5_ cS6_ cS7_ cS8_ cS9_ cS10_ cX0_ cX1_ cX2_ cX3_ cX4_ cX5_ cX6_ cX7_ cX8_ cX9_ cX10_ fX0_ fX1_ fX2_ fX3_ fX4_ fX5_ fX6_ fX7_ fX8_ fX9_ fX10_; obtain ⟨cX0_, cX1_, cX2_, cX3_, cX4_, cX5_, cX6_, cX7_, cX8_, cX9_, cX10_⟩ := hc11 BX.out; obtain ⟨cS0_, cS1_, cS2_, cS3_, cS4_, cS5_, cS6_, cS7_, cS8_, cS9_, cS10_⟩ := hc11 BS.out))
      clear cX0_ cX1_ cX2_ cX3_ cX4_ cX5_ cX6_ cX7_ cX8_ cX9_ cX10_
      rw [rounds_succ]
      clear cS0_ cS1_ cS2_ cS3_ cS4_ cS5_ cS6_ cS7_ cS8_ cS9_ cS10_
      go_wp2_with (first
        | (go_at_call 37; (with_reducible refine (clo37 k a0_0 a0_1 a0_2 a0_3 a0_4 a0_5 a0_6 a0_7 a0_8 a0_9 a0_10 n f1 f2 f3 f4 gA gB _ (Glob.use hG rfl (bl HB.out)) (kp BA.out) (kp BB.out) HF.out).mono ?_); rintro e wF1_ ⟨rfl, hb⟩; replace BA := kb BA hb; replace BB := kb BB hb; replace BS := kb BS hb; replace BR := kb BR hb; replace BX := kb BX hb; replace HB := sb HB hb; clear hb)
        | ((with_reducible refine gate_dst (N := 11) rfl ?_); refine box_event ?hg (N := 11) ?hd (cs := #[.int .i64 0, .int .i64 0, .int .i64 0]) (t := 29) ?hr ?_; (case hd => rfl); (case hg => rfl); (case hr => first | (go_simp; done) | (go_simp; rfl)); intro gF hg_ wF_ hbox hb; have GF := zb HB hg_; have NAF := nk BA hg_; have NFA := nl_ BA hg_; have NBF := nk BB hg_; have NFB := nl_ BB hg_; have NSF := nk BS hg_; have NFS := nl_ BS hg_; have NRF := nk BR hg_; have NFR := nl_ BR hg_; have NXF := nk BX hg_; have NFX := nl_ BX hg_; replace BA := kb BA hb; replace BB := kb BB hb; replace BS := kb BS hb; replace BR := kb BR hb; replace BX := kb BX hb; replace HB := sb HB hb; have BF := Aside0.mk hbox; obtain ⟨cF0_, cF1_, cF2_⟩ := hc3 BF.out; obtain ⟨fF0_, fF1_, fF2_⟩ := hf3 BF.out; obtain ⟨cR0_, cR1_, cR2_, cR3_, cR4_, cR5_, cR6_, cR7_, cR8_, cR9_, cR10_⟩ := hc11 BR.out; obtain ⟨fR0_, fR1_, fR2_, fR3_, fR4_, fR5_, fR6_, fR7_, fR8_, fR9_, fR10_⟩ := hf11 BR.out; have qFR := NFR.out; have qRF := NRF.out; clear hbox hb hg_))
      refine bodyPost_ret (results_ct rfl _ _ gR 31 #[.int .i64 0, .int .i64 0, .int .i64 0, .int .i64 0, .int .i64 0, .int .i64 0, .int .i64 0, .int .i64 0, .int .i64 0, .int .i64 0, .int .i64 0] (0, 0) _ rfl (put11 (kp BR.out)) hu rfl (by kernel_rfl)) rfl ?_
      exact ⟨rfl, bl HB.out⟩
  · have bA1 : (a0_10 == 0) = false := beq_eq_false_iff_ne.mpr ha
    rw [if_neg ha] at h
    clear ha
    simp only [noW, Option.some.injEq, Prod.mk.injEq] at h
    obtain ⟨rfl, rfl, rfl, rfl, rfl, rfl, rfl, rfl, rfl, rfl, rfl, rfl⟩ := h
    go_enter Tryd.func27, Tryd.ntmps27
    go_wp2_with (first
      | ((with_reducible refine gate_dst (N := 6) rfl ?_); refine box_event ?hg (N := 6) ?hd (cs := #[.int .i64 0, .int .i64 0, .int .i64 0, .int .i64 0, .int .i64 0, .int .i64 0, .int .i64 0, .int .i64 0, .int .i64 0, .int .i64 0, .int .i64 0]) (t := 31) ?hr ?_; (case hd => rfl); (case hg => rfl); (case hr => first | (go_simp; done) | (go_simp; rfl)); intro gR hg_ wR_ hbox hb; have GR := zb HB hg_; have NAR := nk BA hg_; have NRA := nl_ BA hg_; have NBR := nk BB hg_; have NRB := nl_ BB hg_; have NSR := nk BS hg_; have NRS := nl_ BS hg_; replace BA := kb BA hb; replace BB := kb BB hb; replace BS := kb BS hb; replace HB := sb HB hb; have BR := Aside0.mk hbox; obtain ⟨cS0_, cS1_, cS2_, cS3_, cS4_, cS5_, cS6_, cS7_, cS8_, cS9_, cS10_⟩ := hc11 BS.out; clear hbox hb hg_))
    refine wp_loop_rounds 2 ?_
    rw [rounds_succ]
    have eTX := eqTag a0_0 a0_1 a0_2 a0_3 a0_4 a0_5 a0_6 a0_7 a0_8 a0_9 a0_10
    go_wp2_with (first
      | ((with_reducible refine gate_dst (N := 10) rfl ?_); refine box_event ?hg (N := 10) ?hd (cs := #[.int .i64 0, .int .i64 0, .int .i64 0, .int .i64 0, .int .i64 0, .int .i64 0, .int .i64 0, .int .i64 0, .int .i64 0, .int .i64 0, .int .i64 0]) (t := 31) ?hr ?_; (case hd => rfl); (case hg => rfl); (case hr => first | (go_simp; done) | (go_simp; rfl)); intro gX hg_ wX_ hbox hb; have GX := zb HB hg_; have NAX := nk BA hg_; have NXA := nl_ BA hg_; have NBX := nk BB hg_; have NXB := nl_ BB hg_; have NSX := nk BS hg_; have NXS := nl_ BS hg_; have NRX := nk BR hg_; have NXR := nl_ BR hg_; replace BA := kb BA hb; replace BB := kb BB hb; replace BS := kb BS hb; replace BR := kb BR hb; replace HB := sb HB hb; have BX := Aside0.mk hbox; clear cS0_ cS1_ cS2_ cS3_ cS4_ cS5_ cS6_ cS7_ cS8_ cS9_ cS10_; obtain ⟨cS0_, cS1_, cS2_, cS3_, cS4_, cS5_, cS6_, cS7_, cS8_, cS9_, cS10_⟩ := hc11 BS.out; obtain ⟨fX0_, fX1_, fX2_, fX3_, fX4_, fX5_, fX6_, fX7_, fX8_, fX9_, fX10_⟩ := hf11 BX.out; obtain ⟨cX0_, cX1_, cX2_, cX3_, cX4_, cX5_, cX6_, cX7_, cX8_, cX9_, cX10_⟩ := hc11 BX.out; clear hbox hb hg_)
      | (go_at_call 19; (with_reducible refine (worth_Right.calls k a0_0 a0_1 a0_2 a0_3 a0_4 a0_5 a0_6 a0_7 a0_8 a0_9 a0_10 true _ RA.out).mono ?_); rintro e wX2_ ⟨rfl, hb⟩; replace BA := kb BA hb; replace BB := kb BB hb; replace BS := kb BS hb; replace BR := kb BR hb; replace BX := Aside0.mk (blk_below (put11 (kp BX.out)) hb); replace HB := sb HB hb; clear hb cS0_ cS1_ cS2_ cS3_ cS4_ cS5_ cS6_ cS7_ cS8_ cS9_ cS10_ cX0_ cX1_ cX2_ cX3_ cX4_ cX5_ cX6_ cX7_ cX8_ cX9_ cX10_ fX0_ fX1_ fX2_ fX3_ fX4_ fX5_ fX6_ fX7_ fX8_ fX9_ fX10_; obtain ⟨cX0_, cX1_, cX2_, cX3_, cX4_, cX5_, cX6_, cX7_, cX8_, cX9_, cX10_⟩ := hc11 BX.out; obtain ⟨cS0_, cS1_, cS2_, cS3_, cS4_, cS5_, cS6_, cS7_, cS8_, cS9_, cS10_⟩ := hc11 BS.out))
    clear cX0_ cX1_ cX2_ cX3_ cX4_ cX5_ cX6_ cX7_ cX8_ cX9_ cX10_
    rw [rounds_succ]
    obtain ⟨cR0_, cR1_, cR2_, cR3_, cR4_, cR5_, cR6_, cR7_, cR8_, cR9_, cR10_⟩ := hc11 BR.out
    obtain ⟨fR0_, fR1_, fR2_, fR3_, fR4_, fR5_, fR6_, fR7_, fR8_, fR9_, fR10_⟩ := hf11 BR.out
    go_wp2
    refine bodyPost_ret (results_ct rfl _ _ gR 31 #[.int .i64 0, .int .i64 0, .int .i64 0, .int .i64 0, .int .i64 0, .int .i64 0, .int .i64 0, .int .i64 0, .int .i64 0, .int .i64 0, .int .i64 0] (0, 0) _ rfl (put11 (kp BR.out)) hu rfl (by kernel_rfl)) rfl ?_
    exact ⟨rfl, bl HB.out⟩
def worth_Pow.f (k : Nat) (a0_0 a0_1 a0_2 a0_3 a0_4 a0_5 a0_6 a0_7 a0_8 a0_9 a0_10 n : Int) : Option W12 := if n < -99 ∨ 99 < n then some (noW 1) else worth_Pow.put k a0_0 a0_1 a0_2 a0_3 a0_4 a0_5 a0_6 a0_7 a0_8 a0_9 a0_10 n
theorem worth_Pow.mono : ∀ a0_0 a0_1 a0_2 a0_3 a0_4 a0_5 a0_6 a0_7 a0_8 a0_9 a0_10 n k, LeO (worth_Pow.f k a0_0 a0_1 a0_2 a0_3 a0_4 a0_5 a0_6 a0_7 a0_8 a0_9 a0_10 n) (worth_Pow.f (k + 1) a0_0 a0_1 a0_2 a0_3 a0_4 a0_5 a0_6 a0_7 a0_8 a0_9 a0_10 n) := by
  intro a0_0 a0_1 a0_2 a0_3 a0_4 a0_5 a0_6 a0_7 a0_8 a0_9 a0_10 n k
  unfold worth_Pow.f
  refine LeO.ite (LeO.refl _) ?_
  exact worth_Pow.put.mono _ _ _ _ _ _ _ _ _ _ _ _ _
set_option maxHeartbeats 16000000 in
theorem worth_Pow.calls (k : Nat) (a0_0 a0_1 a0_2 a0_3 a0_4 a0_5 a0_6 a0_7 a0_8 a0_9 a0_10 n : Int) (r1 r2 r3 r4 r5 r6 r7 r8 r9 r10 r11 r12 : Int) (w : World) (hG : Glob [0, 1] w) (h : worth_Pow.f k a0_0 a0_1 a0_2 a0_3 a0_4 a0_5 a0_6 a0_7 a0_8 a0_9 a0_10 n = some (r1, r2, r3, r4, r5, r6, r7, r8, r9, r10, r11, r12)) :
    Calls Tryd.prog 16 #[.agg #[.int .i64 a0_0, .int .i64 a0_1, .int .i64 a0_2, .int .i64 a0_3, .int .i64 a0_4, .int .i64 a0_5, .int .i64 a0_6, .int .i64 a0_7, .int .i64 a0_8, .int .i64 a0_9, .int .i64 a0_10], .int .i64 n] w fun e w' => e = .returned (.tuple #[.agg #[.int .i64 r1, .int .i64 r2, .int .i64 r3, .int .i64 r4, .int .i64 r5, .int .i64 r6, .int .i64 r7, .int .i64 r8, .int .i64 r9, .int .i64 r10, .int .i64 r11], .int .i64 r12]) ∧ Below w.heap.size w w' := by
  have hu := Tryd.underlying31
  unfold worth_Pow.f at h
  by_cases h1 : n < -99
  · rw [if_pos (Or.inl h1)] at h
    simp only [noW, Option.some.injEq, Prod.mk.injEq] at h
    obtain ⟨rfl, rfl, rfl, rfl, rfl, rfl, rfl, rfl, rfl, rfl, rfl, rfl⟩ := h
    go_enter Tryd.func16, Tryd.ntmps16
    go_wp2_with (first
      | ((with_reducible refine gate_dst (N := 2) rfl ?_); refine box_event ?hg (N := 2) ?hd (cs := #[.int .i64 a0_0, .int .i64 a0_1, .int .i64 a0_2, .int .i64 a0_3, .int .i64 a0_4, .int .i64 a0_5, .int .i64 a0_6, .int .i64 a0_7, .int .i64 a0_8, .int .i64 a0_9, .int .i64 a0_10]) (t := 31) ?hr ?_; (case hd => rfl); (case hg => rfl); (case hr => first | (go_simp; done) | (go_simp; rfl)); intro gA hg_ wA_ hbox hb; have GA := Aside0.mk (bsz (bl (Below.refl _ _)) hg_ : w.heap.size ≤ gA); have HB := Aside0.mk hb; have BA := Aside0.mk hbox; clear hbox hb hg_)
      | ((with_reducible refine gate_dst (N := 3) rfl ?_); refine box_event ?hg (N := 3) ?hd (cs := #[.int .i64 n]) (t := 3) ?hr ?_; (case hd => rfl); (case hg => rfl); (case hr => first | (go_simp; done) | (go_simp; rfl)); intro gB hg_ wB_ hbox hb; have GB := zb HB hg_; have NAB := nk BA hg_; have NBA := nl_ BA hg_; replace BA := kb BA hb; replace HB := sb HB hb; have BB := Aside0.mk hbox; clear hbox hb hg_)
      | ((with_reducible refine gate_dst (N := 4) rfl ?_); refine box_event ?hg (N := 4) ?hd (cs := #[.int .i64 0, .int .i64 0, .int .i64 0, .int .i64 0, .int .i64 0, .int .i64 0, .int .i64 0, .int .i64 0, .int .i64 0, .int .i64 0, .int .i64 0]) (t := 31) ?hr ?_; (case hd => rfl); (case hg => rfl); (case hr => first | (go_simp; done) | (go_simp; rfl)); intro gR hg_ wR_ hbox hb; have GR := zb HB hg_; have NAR := nk BA hg_; have NRA := nl_ BA hg_; have NBR := nk BB hg_; have NRB := nl_ BB hg_; replace BA := kb BA hb; replace BB := kb BB hb; replace HB := sb HB hb; have BR := Aside0.mk hbox; have cB0_ := hc1 BB.out; obtain ⟨cR0_, cR1_, cR2_, cR3_, cR4_, cR5_, cR6_, cR7_, cR8_, cR9_, cR10_⟩ := hc11 BR.out; obtain ⟨fR0_, fR1_, fR2_, fR3_, fR4_, fR5_, fR6_, fR7_, fR8_, fR9_, fR10_⟩ := hf11 BR.out; clear hbox hb hg_))
    refine bodyPost_ret (results_ct rfl _ _ gR 31 #[.int .i64 0, .int .i64 0, .int .i64 0, .int .i64 0, .int .i64 0, .int .i64 0, .int .i64 0, .int .i64 0, .int .i64 0, .int .i64 0, .int .i64 0] (0, 0) _ rfl (put11 (kp BR.out)) hu rfl (by kernel_rfl)) rfl ?_
    exact ⟨rfl, bl HB.out⟩
  · by_cases h2 : 99 < n
    · rw [if_pos (Or.inr h2)] at h
      have h3 : n > 99 := h2
      simp only [noW, Option.some.injEq, Prod.mk.injEq] at h
      obtain ⟨rfl, rfl, rfl, rfl, rfl, rfl, rfl, rfl, rfl, rfl, rfl, rfl⟩ := h
      go_enter Tryd.func16, Tryd.ntmps16
      go_wp2_with (first
        | ((with_reducible refine gate_dst (N := 2) rfl ?_); refine box_event ?hg (N := 2) ?hd (cs := #[.int .i64 a0_0, .int .i64 a0_1, .int .i64 a0_2, .int .i64 a0_3, .int .i64 a0_4, .int .i64 a0_5, .int .i64 a0_6, .int .i64 a0_7, .int .i64 a0_8, .int .i64 a0_9, .int .i64 a0_10]) (t := 31) ?hr ?_; (case hd => rfl); (case hg => rfl); (case hr => first | (go_simp; done) | (go_simp; rfl)); intro gA hg_ wA_ hbox hb; have GA := Aside0.mk (bsz (bl (Below.refl _ _)) hg_ : w.heap.size ≤ gA); have HB := Aside0.mk hb; have BA := Aside0.mk hbox; clear hbox hb hg_)
        | ((with_reducible refine gate_dst (N := 3) rfl ?_); refine box_event ?hg (N := 3) ?hd (cs := #[.int .i64 n]) (t := 3) ?hr ?_; (case hd => rfl); (case hg => rfl); (case hr => first | (go_simp; done) | (go_simp; rfl)); intro gB hg_ wB_ hbox hb; have GB := zb HB hg_; have NAB := nk BA hg_; have NBA := nl_ BA hg_; replace BA := kb BA hb; replace HB := sb HB hb; have BB := Aside0.mk hbox; clear hbox hb hg_)
        | ((with_reducible refine gate_dst (N := 4) rfl ?_); refine box_event ?hg (N := 4) ?hd (cs := #[.int .i64 0, .int .i64 0, .int .i64 0, .int .i64 0, .int .i64 0, .int .i64 0, .int .i64 0, .int .i64 0, .int .i64 0, .int .i64 0, .int .i64 0]) (t := 31) ?hr ?_; (case hd => rfl); (case hg => rfl); (case hr => first | (go_simp; done) | (go_simp; rfl)); intro gR hg_ wR_ hbox hb; have GR := zb HB hg_; have NAR := nk BA hg_; have NRA := nl_ BA hg_; have NBR := nk BB hg_; have NRB := nl_ BB hg_; replace BA := kb BA hb; replace BB := kb BB hb; replace HB := sb HB hb; have BR := Aside0.mk hbox; have cB0_ := hc1 BB.out; obtain ⟨cR0_, cR1_, cR2_, cR3_, cR4_, cR5_, cR6_, cR7_, cR8_, cR9_, cR10_⟩ := hc11 BR.out; obtain ⟨fR0_, fR1_, fR2_, fR3_, fR4_, fR5_, fR6_, fR7_, fR8_, fR9_, fR10_⟩ := hf11 BR.out; clear hbox hb hg_))
      refine bodyPost_ret (results_ct rfl _ _ gR 31 #[.int .i64 0, .int .i64 0, .int .i64 0, .int .i64 0, .int .i64 0, .int .i64 0, .int .i64 0, .int .i64 0, .int .i64 0, .int .i64 0, .int .i64 0] (0, 0) _ rfl (put11 (kp BR.out)) hu rfl (by kernel_rfl)) rfl ?_
      exact ⟨rfl, bl HB.out⟩
    · rw [if_neg (fun q => q.elim h1 h2)] at h
      have h3 : ¬ n > 99 := h2
      have HP := Aside0.mk h
      clear h
      go_enter Tryd.func16, Tryd.ntmps16
      go_wp2_with (first
        | ((with_reducible refine gate_dst (N := 2) rfl ?_); refine box_event ?hg (N := 2) ?hd (cs := #[.int .i64 a0_0, .int .i64 a0_1, .int .i64 a0_2, .int .i64 a0_3, .int .i64 a0_4, .int .i64 a0_5, .int .i64 a0_6, .int .i64 a0_7, .int .i64 a0_8, .int .i64 a0_9, .int .i64 a0_10]) (t := 31) ?hr ?_; (case hd => rfl); (case hg => rfl); (case hr => first | (go_simp; done) | (go_simp; rfl)); intro gA hg_ wA_ hbox hb; have GA := Aside0.mk (bsz (bl (Below.refl _ _)) hg_ : w.heap.size ≤ gA); have HB := Aside0.mk hb; have BA := Aside0.mk hbox; clear hbox hb hg_)
        | ((with_reducible refine gate_dst (N := 3) rfl ?_); refine box_event ?hg (N := 3) ?hd (cs := #[.int .i64 n]) (t := 3) ?hr ?_; (case hd => rfl); (case hg => rfl); (case hr => first | (go_simp; done) | (go_simp; rfl)); intro gB hg_ wB_ hbox hb; have GB := zb HB hg_; have NAB := nk BA hg_; have NBA := nl_ BA hg_; replace BA := kb BA hb; replace HB := sb HB hb; have BB := Aside0.mk hbox; clear hbox hb hg_)
        | ((with_reducible refine gate_dst (N := 4) rfl ?_); refine box_event ?hg (N := 4) ?hd (cs := #[.int .i64 0, .int .i64 0, .int .i64 0, .int .i64 0, .int .i64 0, .int .i64 0, .int .i64 0, .int .i64 0, .int .i64 0, .int .i64 0, .int .i64 0]) (t := 31) ?hr ?_; (case hd => rfl); (case hg => rfl); (case hr => first | (go_simp; done) | (go_simp; rfl)); intro gR hg_ wR_ hbox hb; have GR := zb HB hg_; have NAR := nk BA hg_; have NRA := nl_ BA hg_; have NBR := nk BB hg_; have NRB := nl_ BB hg_; replace BA := kb BA hb; replace BB := kb BB hb; replace HB := sb HB hb; have BR := Aside0.mk hbox; obtain ⟨cA0_, cA1_, cA2_, cA3_, cA4_, cA5_, cA6_, cA7_, cA8_, cA9_, cA10_⟩ := hc11 BA.out; have cB0_ := hc1 BB.out; clear hbox hb hg_)
        | (go_at_call 27; have hb1_ : Below wR_.heap.size wR_ (wR_.alloc (.cells #[.int .i64 a0_0, .int .i64 a0_1, .int .i64 a0_2, .int .i64 a0_3, .int .i64 a0_4, .int .i64 a0_5, .int .i64 a0_6, .int .i64 a0_7, .int .i64 a0_8, .int .i64 a0_9, .int .i64 a0_10] 31)) := below_alloc (Below.refl _ _) _; have hs1_ : (wR_.alloc (.cells #[.int .i64 a0_0, .int .i64 a0_1, .int .i64 a0_2, .int .i64 a0_3, .int .i64 a0_4, .int .i64 a0_5, .int .i64 a0_6, .int .i64 a0_7, .int .i64 a0_8, .int .i64 a0_9, .int .i64 a0_10] 31)).heap[wR_.heap.size]? = some (.cells #[.int .i64 a0_0, .int .i64 a0_1, .int .i64 a0_2, .int .i64 a0_3, .int .i64 a0_4, .int .i64 a0_5, .int .i64 a0_6, .int .i64 a0_7, .int .i64 a0_8, .int .i64 a0_9, .int .i64 a0_10] 31 (0, 0)) := blk_new wR_ _; replace BA := Aside0.mk (blk_below (kp BA.out) hb1_); replace BB := Aside0.mk (blk_below (kp BB.out) hb1_); replace BR := Aside0.mk (blk_below (kp BR.out) hb1_); replace HB := Aside0.mk (below_step (bl HB.out) hb1_); (with_reducible refine (worth_Pow_put_calls k a0_0 a0_1 a0_2 a0_3 a0_4 a0_5 a0_6 a0_7 a0_8 a0_9 a0_10 n gA gB _ r1 r2 r3 r4 r5 r6 r7 r8 r9 r10 r11 r12 _ (Glob.use hG rfl HB.out) BA.out BB.out hs1_ HP.out).mono ?_); rintro e w2_ ⟨rfl, hb⟩; replace BA := Aside0.mk (blk_below BA.out hb); replace BB := Aside0.mk (blk_below BB.out hb); replace BR := Aside0.mk (blk_below BR.out hb); replace HB := Aside0.mk (below_step HB.out hb); clear hb hb1_ hs1_ cA0_ cA1_ cA2_ cA3_ cA4_ cA5_ cA6_ cA7_ cA8_ cA9_ cA10_ cB0_; obtain ⟨cR0_, cR1_, cR2_, cR3_, cR4_, cR5_, cR6_, cR7_, cR8_, cR9_, cR10_⟩ := hc11 BR.out; obtain ⟨fR0_, fR1_, fR2_, fR3_, fR4_, fR5_, fR6_, fR7_, fR8_, fR9_, fR10_⟩ := hf11 BR.out))
      refine bodyPost_ret (results_ct rfl _ _ gR 31 #[.int .i64 r1, .int .i64 r2, .int .i64 r3, .int .i64 r4, .int .i64 r5, .int .i64 r6, .int .i64 r7, .int .i64 r8, .int .i64 r9, .int .i64 r10, .int .i64 r11] (0, 0) _ rfl (put11 (kp BR.out)) hu rfl (by kernel_rfl)) rfl ?_
      exact ⟨rfl, bl HB.out⟩
end Go.Proofs.YthfibffgmoblaaaDoor
