/- frac.Read: how a text is read. Its conditions: the listed variables as they were laid. -/
import Derived.Test.YtnndaackjgnhhaaDoorH4
namespace Go.Proofs.YtnndaackjgnhhaaDoor
open Go Go.RowKit Flat Go.Proofs.YtnndaackjgnhhaaDoor.Sq Go.Proofs.YtnndaackjgnhhaaDoor.PB Go.Proofs.YtnndaackjgnhhaaDoor.PT Go.Proofs.YtnndaackjgnhhaaDoorW.PrintWords Go.Proofs.YtnndaackjgnhhaaDoorW.PrintLast Go.Proofs.YtnndaackjgnhhaaDoorW.PrintMore
attribute [local go_sem] max2_int min2_int max_two min_two max_three min_three max_four min_four   -- for this text's walks alone
set_option linter.unusedVariables false
set_option linter.unusedSimpArgs false
def parsed? (s : ByteArray) : Option (Int × Bool) := if s.size ≤ 281474976710656 then some (parsed s) else none
theorem parsed?_some {s : ByteArray} {r : Int × Bool} (h : parsed? s = some r) : s.size ≤ 281474976710656 ∧ parsed s = r := by
  unfold parsed? at h
  split at h
  · exact ⟨by assumption, Option.some.inj h⟩
  · cases h
def frac_Read.f (k : Nat) (s : ByteArray) : Option (Int × Int × Int × Int) :=
  (strings_Cut.f s ⟨#[101]⟩).bind fun c => (strings_Cut.f c.1 ⟨#[47]⟩).bind fun d => (parsed? d.1).bind fun n =>
    (if d.2.2 = true then parsed? d.2.1 else some (1, true)).bind fun m => (if c.2.2 = true then parsed? c.2.1 else some (0, true)).bind fun t =>
      if (n.2 && m.2 && t.2) = true then (frac_Text.f k n.1 m.1 t.1).bind fun x => if x.toList = s.toList then some (n.1, m.1, t.1, 0) else some (0, 0, 0, 20) else some (0, 0, 0, 20)
theorem frac_Read.mono : ∀ s k, LeO (frac_Read.f k s) (frac_Read.f (k + 1) s) := by
  intro s k
  unfold frac_Read.f
  refine LeO.bind (LeO.refl _) fun c => LeO.bind (LeO.refl _) fun d => LeO.bind (LeO.refl _) fun n => LeO.bind (LeO.refl _) fun m => LeO.bind (LeO.refl _) fun t => LeO.ite ?_ (LeO.refl _)
  exact LeO.bind (frac_Text.mono _ _ _ _) fun x => LeO.refl _
set_option maxHeartbeats 4000000 in
set_option maxRecDepth 100000 in
theorem frac_Read.calls (k : Nat) (s : ByteArray) (r1 r2 r3 r4 : Int) (w : World) (hG : Glob [3, 4, 5] w) (h : frac_Read.f k s = some (r1, r2, r3, r4)) :
    Calls Tryd.prog 20 #[.string s] w fun e w' => e = .returned (.tuple #[.agg #[.int .i64 r1, .int .i64 r2, .int .i64 r3], .int .i64 r4]) ∧ Below w.heap.size w w' := by
  have hu24 := Tryd.underlying24
  unfold frac_Read.f at h
  replace h := Option.bind_eq_some_iff.mp h
  obtain ⟨⟨rest, ten, has⟩, hc, h⟩ := h
  replace h := Option.bind_eq_some_iff.mp h
  obtain ⟨⟨num, den, by_⟩, hd, h⟩ := h
  replace h := Option.bind_eq_some_iff.mp h
  obtain ⟨⟨n, on⟩, hn, h⟩ := h
  replace h := Option.bind_eq_some_iff.mp h
  obtain ⟨⟨m, om⟩, hm, h⟩ := h
  replace h := Option.bind_eq_some_iff.mp h
  obtain ⟨⟨t, ot⟩, ht, h⟩ := h
  simp only at hd hn hm ht h
  have HC := Aside0.mk hc
  have HD := Aside0.mk hd
  have HN := Aside0.mk (parsed?_some hn)
  have HR := Aside0.mk h
  have HG := Aside0.mk hG
  clear hc hd hn h hG
  cases by_ with
  | false =>
    simp only [Bool.false_eq_true, if_false, if_true, Option.some.injEq, Prod.mk.injEq] at hm
    obtain ⟨rfl, rfl⟩ := hm
    cases has with
    | false =>
      simp only [Bool.false_eq_true, if_false, if_true, Option.some.injEq, Prod.mk.injEq] at ht
      obtain ⟨rfl, rfl⟩ := ht
      go_enter Tryd.func20, Tryd.ntmps20
      go_upto_region 11 with (first
            | ((with_reducible refine gate_dst (N := 2) rfl ?_); refine box_event ?hg (N := 2) ?hd (cs := #[.int .i64 0, .int .i64 0, .int .i64 0]) (t := 24) ?hr ?_; (case hd => rfl); (case hg => rfl); (case hr => first | (go_simp; done) | (go_simp; rfl)); intro gr hg w1 hbox hb; have BR := Aside0.mk hbox; have HB := Aside0.mk hb; have GR := Aside0.mk (bsz (bl (Below.refl _ _)) hg : w.heap.size ≤ gr); clear hbox hb hg)
            | ((with_reducible refine gate_dst (N := 4) rfl ?_); refine box_event ?hg (N := 4) ?hd (cs := #[.int .i64 0, .int .i64 0, .int .i64 0]) (t := 24) ?hr ?_; (case hd => rfl); (case hg => rfl); (case hr => first | (go_simp; done) | (go_simp; rfl)); intro ga hg w2 hbox hb; have GA := Aside0.mk (bsz (bl HB.out) hg : w.heap.size ≤ ga); have RA := Aside0.mk (nlt (kp BR.out) hg : gr ≠ ga); have AR := Aside0.mk (ngt (kp BR.out) hg : ga ≠ gr); replace BR := Aside0.mk (blk_below (kp BR.out) hb); have BA := Aside0.mk hbox; replace HB := Aside0.mk (below_step (bl HB.out) hb); obtain ⟨a0, a1, a2⟩ := hc3 BA.out; obtain ⟨f0, f1, f2⟩ := hf3 BA.out; clear hbox hb hg)
            | (go_at_call 39; (with_reducible refine (strings_Cut.calls s ⟨#[101]⟩ rest ten false _ HC.out).mono ?_); rintro e w3 ⟨rfl, ⟨nd, rfl⟩⟩; clear HC)
            | (go_at_call 39; (with_reducible refine (strings_Cut.calls rest ⟨#[47]⟩ num den false _ HD.out).mono ?_); rintro e w4 ⟨rfl, ⟨nd, rfl⟩⟩; clear HD)
            | ((with_reducible refine gate_dst (N := 11) rfl ?_); refine box_event ?hg (N := 11) ?hd (cs := #[.bool false]) (t := 4) ?hr ?_; (case hd => rfl); (case hg => rfl); (case hr => first | (go_simp; done) | (go_simp; rfl)); intro go hg w5 hbox hb; have GO := Aside0.mk (bsz (bl HB.out) hg : w.heap.size ≤ go); have RO := Aside0.mk (nlt (kp BR.out) hg : gr ≠ go); have OR := Aside0.mk (ngt (kp BR.out) hg : go ≠ gr); have AO := Aside0.mk (nlt (kp (p3_2 (kp (p3_1 (kp (p3_0 (kp BA.out))))))) hg : ga ≠ go); have OA := Aside0.mk (ngt (kp (p3_2 (kp (p3_1 (kp (p3_0 (kp BA.out))))))) hg : go ≠ ga); replace BR := Aside0.mk (blk_below (kp BR.out) hb); replace BA := Aside0.mk (blk_below (kp (p3_2 (kp (p3_1 (kp (p3_0 (kp BA.out))))))) hb); replace HB := Aside0.mk (below_step (bl HB.out) hb); have BO := Aside0.mk hbox; clear a0 a1 a2 f0 f1 f2; obtain ⟨a0, a1, a2⟩ := hc3 BA.out; obtain ⟨f0, f1, f2⟩ := hf3 BA.out; have o0 := hc1 BO.out; have o1 := blk_frozen BO.out 0; have na := AO.out; have nb := OA.out; clear hbox hb hg)
            | (go_at_call 40; (with_reducible refine (number_calls num HN.out.1 n on (true) HN.out.2 go _ (Glob.use HG.out (by decide) (bl HB.out)) (kp (p1_0 (kp BO.out)))).mono ?_); rintro e w6 ⟨rfl, RD⟩; replace BR := Aside0.mk (RD.hk gr _ RO.out (kp BR.out)); replace BA := Aside0.mk (RD.hk ga _ AO.out (kp BA.out)); replace HB := Aside0.mk (RD.hB w GO.out (bl HB.out)); replace BO := Aside0.mk RD.ho; clear a0 a1 a2 f0 f1 f2 o0 o1 RD; obtain ⟨a0, a1, a2⟩ := hc3 BA.out; obtain ⟨f0, f1, f2⟩ := hf3 BA.out; have o0 := hc1 BO.out; have o1 := blk_frozen BO.out 0; clear HN))
      have hr := HR.out
      clear HR
      obtain ⟨B, hB⟩ : ∃ B, (true && on) = B := ⟨_, rfl⟩
      rw [show (on && true && true) = B from by rw [← hB]; simp] at hr
      rw [hB] at o0
      clear hB
      obtain ⟨r0_, r1_, r2_⟩ := hf3 BR.out
      obtain ⟨q0_, q1_, q2_⟩ := hc3 BR.out
      have ra := RA.out
      have ar := AR.out
      cases B with
      | false =>
        simp only [Bool.false_eq_true, if_false, Option.some.injEq, Prod.mk.injEq] at hr
        obtain ⟨rfl, rfl, rfl, rfl⟩ := hr
        go_wp2
        refine bodyPost_ret (results_ct rfl _ _ gr 24 #[.int .i64 0, .int .i64 0, .int .i64 0] (0, 0) _ rfl (kp (p3_2 (kp (p3_1 (kp (p3_0 (kp BR.out))))))) hu24 rfl (by kernel_rfl)) rfl ?_
        exact ⟨rfl, bl HB.out⟩
      | true =>
        simp only [if_true] at hr
        replace hr := Option.bind_eq_some_iff.mp hr
        obtain ⟨x, hx, hr⟩ := hr
        have HX := Aside0.mk hx
        clear hx
        by_cases hxs : x.toList = s.toList
        · simp only [if_pos hxs, Option.some.injEq, Prod.mk.injEq] at hr
          obtain ⟨rfl, rfl, rfl, rfl⟩ := hr
          have b0 : (x.toList == s.toList) = true := beq_iff_eq.mpr hxs
          go_wp2_with (first | (go_at_call 22; (with_reducible refine (frac_Text.calls k n 1 0 x _ (Glob.use HG.out (by decide) (bl HB.out)) HX.out).mono ?_); rintro e w9 ⟨rfl, hb⟩; replace BR := Aside0.mk (blk_below (kp BR.out) hb); replace BA := Aside0.mk (blk_below (kp (p3_0 (kp BA.out))) hb); replace HB := Aside0.mk (below_step (bl HB.out) hb); clear a0 a1 a2 f0 f1 f2 o0 o1 r0_ r1_ r2_ q0_ q1_ q2_ HX; obtain ⟨a0, a1, a2⟩ := hc3 BA.out; obtain ⟨r0_, r1_, r2_⟩ := hf3 BR.out; obtain ⟨q0_, q1_, q2_⟩ := hc3 BR.out; clear hb))
          refine bodyPost_ret (results_ct rfl _ _ gr 24 #[.int .i64 n, .int .i64 1, .int .i64 0] (0, 0) _ rfl (kp (p3_2 (kp (p3_1 (kp (p3_0 (kp BR.out))))))) hu24 rfl (by kernel_rfl)) rfl ?_
          exact ⟨rfl, bl HB.out⟩
        · simp only [if_neg hxs, Option.some.injEq, Prod.mk.injEq] at hr
          have b0 : (x.toList == s.toList) = false := beq_eq_false_iff_ne.mpr hxs
          obtain ⟨rfl, rfl, rfl, rfl⟩ := hr
          go_wp2_with (first | (go_at_call 22; (with_reducible refine (frac_Text.calls k n 1 0 x _ (Glob.use HG.out (by decide) (bl HB.out)) HX.out).mono ?_); rintro e w9 ⟨rfl, hb⟩; replace BR := Aside0.mk (blk_below (kp BR.out) hb); replace BA := Aside0.mk (blk_below (kp (p3_0 (kp BA.out))) hb); replace HB := Aside0.mk (below_step (bl HB.out) hb); clear a0 a1 a2 f0 f1 f2 o0 o1 r0_ r1_ r2_ q0_ q1_ q2_ HX; obtain ⟨a0, a1, a2⟩ := hc3 BA.out; obtain ⟨r0_, r1_, r2_⟩ := hf3 BR.out; obtain ⟨q0_, q1_, q2_⟩ := hc3 BR.out; clear hb))
          refine bodyPost_ret (results_ct rfl _ _ gr 24 #[.int .i64 0, .int .i64 0, .int .i64 0] (0, 0) _ rfl (kp (p3_2 (kp (p3_1 (kp (p3_0 (kp BR.out))))))) hu24 rfl (by kernel_rfl)) rfl ?_
          exact ⟨rfl, bl HB.out⟩
    | true =>
      simp only [Bool.false_eq_true, if_false, if_true, Option.some.injEq, Prod.mk.injEq] at ht
      have HT := Aside0.mk (parsed?_some ht)
      clear ht
      go_enter Tryd.func20, Tryd.ntmps20
      go_upto_region 11 with (first
            | ((with_reducible refine gate_dst (N := 2) rfl ?_); refine box_event ?hg (N := 2) ?hd (cs := #[.int .i64 0, .int .i64 0, .int .i64 0]) (t := 24) ?hr ?_; (case hd => rfl); (case hg => rfl); (case hr => first | (go_simp; done) | (go_simp; rfl)); intro gr hg w1 hbox hb; have BR := Aside0.mk hbox; have HB := Aside0.mk hb; have GR := Aside0.mk (bsz (bl (Below.refl _ _)) hg : w.heap.size ≤ gr); clear hbox hb hg)
            | ((with_reducible refine gate_dst (N := 4) rfl ?_); refine box_event ?hg (N := 4) ?hd (cs := #[.int .i64 0, .int .i64 0, .int .i64 0]) (t := 24) ?hr ?_; (case hd => rfl); (case hg => rfl); (case hr => first | (go_simp; done) | (go_simp; rfl)); intro ga hg w2 hbox hb; have GA := Aside0.mk (bsz (bl HB.out) hg : w.heap.size ≤ ga); have RA := Aside0.mk (nlt (kp BR.out) hg : gr ≠ ga); have AR := Aside0.mk (ngt (kp BR.out) hg : ga ≠ gr); replace BR := Aside0.mk (blk_below (kp BR.out) hb); have BA := Aside0.mk hbox; replace HB := Aside0.mk (below_step (bl HB.out) hb); obtain ⟨a0, a1, a2⟩ := hc3 BA.out; obtain ⟨f0, f1, f2⟩ := hf3 BA.out; clear hbox hb hg)
            | (go_at_call 39; (with_reducible refine (strings_Cut.calls s ⟨#[101]⟩ rest ten true _ HC.out).mono ?_); rintro e w3 ⟨rfl, ⟨nd, rfl⟩⟩; clear HC)
            | (go_at_call 39; (with_reducible refine (strings_Cut.calls rest ⟨#[47]⟩ num den false _ HD.out).mono ?_); rintro e w4 ⟨rfl, ⟨nd, rfl⟩⟩; clear HD)
            | ((with_reducible refine gate_dst (N := 11) rfl ?_); refine box_event ?hg (N := 11) ?hd (cs := #[.bool false]) (t := 4) ?hr ?_; (case hd => rfl); (case hg => rfl); (case hr => first | (go_simp; done) | (go_simp; rfl)); intro go hg w5 hbox hb; have GO := Aside0.mk (bsz (bl HB.out) hg : w.heap.size ≤ go); have RO := Aside0.mk (nlt (kp BR.out) hg : gr ≠ go); have OR := Aside0.mk (ngt (kp BR.out) hg : go ≠ gr); have AO := Aside0.mk (nlt (kp (p3_2 (kp (p3_1 (kp (p3_0 (kp BA.out))))))) hg : ga ≠ go); have OA := Aside0.mk (ngt (kp (p3_2 (kp (p3_1 (kp (p3_0 (kp BA.out))))))) hg : go ≠ ga); replace BR := Aside0.mk (blk_below (kp BR.out) hb); replace BA := Aside0.mk (blk_below (kp (p3_2 (kp (p3_1 (kp (p3_0 (kp BA.out))))))) hb); replace HB := Aside0.mk (below_step (bl HB.out) hb); have BO := Aside0.mk hbox; clear a0 a1 a2 f0 f1 f2; obtain ⟨a0, a1, a2⟩ := hc3 BA.out; obtain ⟨f0, f1, f2⟩ := hf3 BA.out; have o0 := hc1 BO.out; have o1 := blk_frozen BO.out 0; have na := AO.out; have nb := OA.out; clear hbox hb hg)
            | (go_at_call 40; (with_reducible refine (number_calls num HN.out.1 n on (true) HN.out.2 go _ (Glob.use HG.out (by decide) (bl HB.out)) (kp (p1_0 (kp BO.out)))).mono ?_); rintro e w6 ⟨rfl, RD⟩; replace BR := Aside0.mk (RD.hk gr _ RO.out (kp BR.out)); replace BA := Aside0.mk (RD.hk ga _ AO.out (kp BA.out)); replace HB := Aside0.mk (RD.hB w GO.out (bl HB.out)); replace BO := Aside0.mk RD.ho; clear a0 a1 a2 f0 f1 f2 o0 o1 RD; obtain ⟨a0, a1, a2⟩ := hc3 BA.out; obtain ⟨f0, f1, f2⟩ := hf3 BA.out; have o0 := hc1 BO.out; have o1 := blk_frozen BO.out 0; clear HN)
            | (go_at_call 40; (with_reducible refine (number_calls ten HT.out.1 t ot (true && on) HT.out.2 go _ (Glob.use HG.out (by decide) (bl HB.out)) (kp BO.out)).mono ?_); rintro e w7 ⟨rfl, RD⟩; replace BR := Aside0.mk (RD.hk gr _ RO.out (kp BR.out)); replace BA := Aside0.mk (RD.hk ga _ AO.out (kp (p3_0 (kp BA.out)))); replace HB := Aside0.mk (RD.hB w GO.out (bl HB.out)); replace BO := Aside0.mk RD.ho; clear a0 a1 a2 f0 f1 f2 o0 o1 RD; obtain ⟨a0, a1, a2⟩ := hc3 BA.out; obtain ⟨f0, f1, f2⟩ := hf3 BA.out; have o0 := hc1 BO.out; have o1 := blk_frozen BO.out 0; clear HT))
      have hr := HR.out
      clear HR
      obtain ⟨B, hB⟩ : ∃ B, ((true && on) && ot) = B := ⟨_, rfl⟩
      rw [show (on && true && ot) = B from by rw [← hB]; simp] at hr
      rw [hB] at o0
      clear hB
      obtain ⟨r0_, r1_, r2_⟩ := hf3 BR.out
      obtain ⟨q0_, q1_, q2_⟩ := hc3 BR.out
      have ra := RA.out
      have ar := AR.out
      cases B with
      | false =>
        simp only [Bool.false_eq_true, if_false, Option.some.injEq, Prod.mk.injEq] at hr
        obtain ⟨rfl, rfl, rfl, rfl⟩ := hr
        go_wp2
        refine bodyPost_ret (results_ct rfl _ _ gr 24 #[.int .i64 0, .int .i64 0, .int .i64 0] (0, 0) _ rfl (kp (p3_2 (kp (p3_1 (kp (p3_0 (kp BR.out))))))) hu24 rfl (by kernel_rfl)) rfl ?_
        exact ⟨rfl, bl HB.out⟩
      | true =>
        simp only [if_true] at hr
        replace hr := Option.bind_eq_some_iff.mp hr
        obtain ⟨x, hx, hr⟩ := hr
        have HX := Aside0.mk hx
        clear hx
        by_cases hxs : x.toList = s.toList
        · simp only [if_pos hxs, Option.some.injEq, Prod.mk.injEq] at hr
          obtain ⟨rfl, rfl, rfl, rfl⟩ := hr
          have b0 : (x.toList == s.toList) = true := beq_iff_eq.mpr hxs
          go_wp2_with (first | (go_at_call 22; (with_reducible refine (frac_Text.calls k n 1 t x _ (Glob.use HG.out (by decide) (bl HB.out)) HX.out).mono ?_); rintro e w9 ⟨rfl, hb⟩; replace BR := Aside0.mk (blk_below (kp BR.out) hb); replace BA := Aside0.mk (blk_below (kp (p3_2 (kp BA.out))) hb); replace HB := Aside0.mk (below_step (bl HB.out) hb); clear a0 a1 a2 f0 f1 f2 o0 o1 r0_ r1_ r2_ q0_ q1_ q2_ HX; obtain ⟨a0, a1, a2⟩ := hc3 BA.out; obtain ⟨r0_, r1_, r2_⟩ := hf3 BR.out; obtain ⟨q0_, q1_, q2_⟩ := hc3 BR.out; clear hb))
          refine bodyPost_ret (results_ct rfl _ _ gr 24 #[.int .i64 n, .int .i64 1, .int .i64 t] (0, 0) _ rfl (kp (p3_2 (kp (p3_1 (kp (p3_0 (kp BR.out))))))) hu24 rfl (by kernel_rfl)) rfl ?_
          exact ⟨rfl, bl HB.out⟩
        · simp only [if_neg hxs, Option.some.injEq, Prod.mk.injEq] at hr
          have b0 : (x.toList == s.toList) = false := beq_eq_false_iff_ne.mpr hxs
          obtain ⟨rfl, rfl, rfl, rfl⟩ := hr
          go_wp2_with (first | (go_at_call 22; (with_reducible refine (frac_Text.calls k n 1 t x _ (Glob.use HG.out (by decide) (bl HB.out)) HX.out).mono ?_); rintro e w9 ⟨rfl, hb⟩; replace BR := Aside0.mk (blk_below (kp BR.out) hb); replace BA := Aside0.mk (blk_below (kp (p3_2 (kp BA.out))) hb); replace HB := Aside0.mk (below_step (bl HB.out) hb); clear a0 a1 a2 f0 f1 f2 o0 o1 r0_ r1_ r2_ q0_ q1_ q2_ HX; obtain ⟨a0, a1, a2⟩ := hc3 BA.out; obtain ⟨r0_, r1_, r2_⟩ := hf3 BR.out; obtain ⟨q0_, q1_, q2_⟩ := hc3 BR.out; clear hb))
          refine bodyPost_ret (results_ct rfl _ _ gr 24 #[.int .i64 0, .int .i64 0, .int .i64 0] (0, 0) _ rfl (kp (p3_2 (kp (p3_1 (kp (p3_0 (kp BR.out))))))) hu24 rfl (by kernel_rfl)) rfl ?_
          exact ⟨rfl, bl HB.out⟩
  | true =>
    simp only [Bool.false_eq_true, if_false, if_true, Option.some.injEq, Prod.mk.injEq] at hm
    have HM := Aside0.mk (parsed?_some hm)
    clear hm
    cases has with
    | false =>
      simp only [Bool.false_eq_true, if_false, if_true, Option.some.injEq, Prod.mk.injEq] at ht
      obtain ⟨rfl, rfl⟩ := ht
      go_enter Tryd.func20, Tryd.ntmps20
      go_upto_region 11 with (first
            | ((with_reducible refine gate_dst (N := 2) rfl ?_); refine box_event ?hg (N := 2) ?hd (cs := #[.int .i64 0, .int .i64 0, .int .i64 0]) (t := 24) ?hr ?_; (case hd => rfl); (case hg => rfl); (case hr => first | (go_simp; done) | (go_simp; rfl)); intro gr hg w1 hbox hb; have BR := Aside0.mk hbox; have HB := Aside0.mk hb; have GR := Aside0.mk (bsz (bl (Below.refl _ _)) hg : w.heap.size ≤ gr); clear hbox hb hg)
            | ((with_reducible refine gate_dst (N := 4) rfl ?_); refine box_event ?hg (N := 4) ?hd (cs := #[.int .i64 0, .int .i64 0, .int .i64 0]) (t := 24) ?hr ?_; (case hd => rfl); (case hg => rfl); (case hr => first | (go_simp; done) | (go_simp; rfl)); intro ga hg w2 hbox hb; have GA := Aside0.mk (bsz (bl HB.out) hg : w.heap.size ≤ ga); have RA := Aside0.mk (nlt (kp BR.out) hg : gr ≠ ga); have AR := Aside0.mk (ngt (kp BR.out) hg : ga ≠ gr); replace BR := Aside0.mk (blk_below (kp BR.out) hb); have BA := Aside0.mk hbox; replace HB := Aside0.mk (below_step (bl HB.out) hb); obtain ⟨a0, a1, a2⟩ := hc3 BA.out; obtain ⟨f0, f1, f2⟩ := hf3 BA.out; clear hbox hb hg)
            | (go_at_call 39; (with_reducible refine (strings_Cut.calls s ⟨#[101]⟩ rest ten false _ HC.out).mono ?_); rintro e w3 ⟨rfl, ⟨nd, rfl⟩⟩; clear HC)
            | (go_at_call 39; (with_reducible refine (strings_Cut.calls rest ⟨#[47]⟩ num den true _ HD.out).mono ?_); rintro e w4 ⟨rfl, ⟨nd, rfl⟩⟩; clear HD)
            | ((with_reducible refine gate_dst (N := 11) rfl ?_); refine box_event ?hg (N := 11) ?hd (cs := #[.bool false]) (t := 4) ?hr ?_; (case hd => rfl); (case hg => rfl); (case hr => first | (go_simp; done) | (go_simp; rfl)); intro go hg w5 hbox hb; have GO := Aside0.mk (bsz (bl HB.out) hg : w.heap.size ≤ go); have RO := Aside0.mk (nlt (kp BR.out) hg : gr ≠ go); have OR := Aside0.mk (ngt (kp BR.out) hg : go ≠ gr); have AO := Aside0.mk (nlt (kp (p3_2 (kp (p3_1 (kp (p3_0 (kp BA.out))))))) hg : ga ≠ go); have OA := Aside0.mk (ngt (kp (p3_2 (kp (p3_1 (kp (p3_0 (kp BA.out))))))) hg : go ≠ ga); replace BR := Aside0.mk (blk_below (kp BR.out) hb); replace BA := Aside0.mk (blk_below (kp (p3_2 (kp (p3_1 (kp (p3_0 (kp BA.out))))))) hb); replace HB := Aside0.mk (below_step (bl HB.out) hb); have BO := Aside0.mk hbox; clear a0 a1 a2 f0 f1 f2; obtain ⟨a0, a1, a2⟩ := hc3 BA.out; obtain ⟨f0, f1, f2⟩ := hf3 BA.out; have o0 := hc1 BO.out; have o1 := blk_frozen BO.out 0; have na := AO.out; have nb := OA.out; clear hbox hb hg)
            | (go_at_call 40; (with_reducible refine (number_calls num HN.out.1 n on (true) HN.out.2 go _ (Glob.use HG.out (by decide) (bl HB.out)) (kp (p1_0 (kp BO.out)))).mono ?_); rintro e w6 ⟨rfl, RD⟩; replace BR := Aside0.mk (RD.hk gr _ RO.out (kp BR.out)); replace BA := Aside0.mk (RD.hk ga _ AO.out (kp BA.out)); replace HB := Aside0.mk (RD.hB w GO.out (bl HB.out)); replace BO := Aside0.mk RD.ho; clear a0 a1 a2 f0 f1 f2 o0 o1 RD; obtain ⟨a0, a1, a2⟩ := hc3 BA.out; obtain ⟨f0, f1, f2⟩ := hf3 BA.out; have o0 := hc1 BO.out; have o1 := blk_frozen BO.out 0; clear HN)
            | (go_at_call 40; (with_reducible refine (number_calls den HM.out.1 m om (true && on) HM.out.2 go _ (Glob.use HG.out (by decide) (bl HB.out)) (kp BO.out)).mono ?_); rintro e w7 ⟨rfl, RD⟩; replace BR := Aside0.mk (RD.hk gr _ RO.out (kp BR.out)); replace BA := Aside0.mk (RD.hk ga _ AO.out (kp (p3_0 (kp BA.out)))); replace HB := Aside0.mk (RD.hB w GO.out (bl HB.out)); replace BO := Aside0.mk RD.ho; clear a0 a1 a2 f0 f1 f2 o0 o1 RD; obtain ⟨a0, a1, a2⟩ := hc3 BA.out; obtain ⟨f0, f1, f2⟩ := hf3 BA.out; have o0 := hc1 BO.out; have o1 := blk_frozen BO.out 0; clear HM))
      have hr := HR.out
      clear HR
      obtain ⟨B, hB⟩ : ∃ B, ((true && on) && om) = B := ⟨_, rfl⟩
      rw [show (on && om && true) = B from by rw [← hB]; simp] at hr
      rw [hB] at o0
      clear hB
      obtain ⟨r0_, r1_, r2_⟩ := hf3 BR.out
      obtain ⟨q0_, q1_, q2_⟩ := hc3 BR.out
      have ra := RA.out
      have ar := AR.out
      cases B with
      | false =>
        simp only [Bool.false_eq_true, if_false, Option.some.injEq, Prod.mk.injEq] at hr
        obtain ⟨rfl, rfl, rfl, rfl⟩ := hr
        go_wp2
        refine bodyPost_ret (results_ct rfl _ _ gr 24 #[.int .i64 0, .int .i64 0, .int .i64 0] (0, 0) _ rfl (kp (p3_2 (kp (p3_1 (kp (p3_0 (kp BR.out))))))) hu24 rfl (by kernel_rfl)) rfl ?_
        exact ⟨rfl, bl HB.out⟩
      | true =>
        simp only [if_true] at hr
        replace hr := Option.bind_eq_some_iff.mp hr
        obtain ⟨x, hx, hr⟩ := hr
        have HX := Aside0.mk hx
        clear hx
        by_cases hxs : x.toList = s.toList
        · simp only [if_pos hxs, Option.some.injEq, Prod.mk.injEq] at hr
          obtain ⟨rfl, rfl, rfl, rfl⟩ := hr
          have b0 : (x.toList == s.toList) = true := beq_iff_eq.mpr hxs
          go_wp2_with (first | (go_at_call 22; (with_reducible refine (frac_Text.calls k n m 0 x _ (Glob.use HG.out (by decide) (bl HB.out)) HX.out).mono ?_); rintro e w9 ⟨rfl, hb⟩; replace BR := Aside0.mk (blk_below (kp BR.out) hb); replace BA := Aside0.mk (blk_below (kp (p3_1 (kp BA.out))) hb); replace HB := Aside0.mk (below_step (bl HB.out) hb); clear a0 a1 a2 f0 f1 f2 o0 o1 r0_ r1_ r2_ q0_ q1_ q2_ HX; obtain ⟨a0, a1, a2⟩ := hc3 BA.out; obtain ⟨r0_, r1_, r2_⟩ := hf3 BR.out; obtain ⟨q0_, q1_, q2_⟩ := hc3 BR.out; clear hb))
          refine bodyPost_ret (results_ct rfl _ _ gr 24 #[.int .i64 n, .int .i64 m, .int .i64 0] (0, 0) _ rfl (kp (p3_2 (kp (p3_1 (kp (p3_0 (kp BR.out))))))) hu24 rfl (by kernel_rfl)) rfl ?_
          exact ⟨rfl, bl HB.out⟩
        · simp only [if_neg hxs, Option.some.injEq, Prod.mk.injEq] at hr
          have b0 : (x.toList == s.toList) = false := beq_eq_false_iff_ne.mpr hxs
          obtain ⟨rfl, rfl, rfl, rfl⟩ := hr
          go_wp2_with (first | (go_at_call 22; (with_reducible refine (frac_Text.calls k n m 0 x _ (Glob.use HG.out (by decide) (bl HB.out)) HX.out).mono ?_); rintro e w9 ⟨rfl, hb⟩; replace BR := Aside0.mk (blk_below (kp BR.out) hb); replace BA := Aside0.mk (blk_below (kp (p3_1 (kp BA.out))) hb); replace HB := Aside0.mk (below_step (bl HB.out) hb); clear a0 a1 a2 f0 f1 f2 o0 o1 r0_ r1_ r2_ q0_ q1_ q2_ HX; obtain ⟨a0, a1, a2⟩ := hc3 BA.out; obtain ⟨r0_, r1_, r2_⟩ := hf3 BR.out; obtain ⟨q0_, q1_, q2_⟩ := hc3 BR.out; clear hb))
          refine bodyPost_ret (results_ct rfl _ _ gr 24 #[.int .i64 0, .int .i64 0, .int .i64 0] (0, 0) _ rfl (kp (p3_2 (kp (p3_1 (kp (p3_0 (kp BR.out))))))) hu24 rfl (by kernel_rfl)) rfl ?_
          exact ⟨rfl, bl HB.out⟩
    | true =>
      simp only [Bool.false_eq_true, if_false, if_true, Option.some.injEq, Prod.mk.injEq] at ht
      have HT := Aside0.mk (parsed?_some ht)
      clear ht
      go_enter Tryd.func20, Tryd.ntmps20
      go_upto_region 11 with (first
            | ((with_reducible refine gate_dst (N := 2) rfl ?_); refine box_event ?hg (N := 2) ?hd (cs := #[.int .i64 0, .int .i64 0, .int .i64 0]) (t := 24) ?hr ?_; (case hd => rfl); (case hg => rfl); (case hr => first | (go_simp; done) | (go_simp; rfl)); intro gr hg w1 hbox hb; have BR := Aside0.mk hbox; have HB := Aside0.mk hb; have GR := Aside0.mk (bsz (bl (Below.refl _ _)) hg : w.heap.size ≤ gr); clear hbox hb hg)
            | ((with_reducible refine gate_dst (N := 4) rfl ?_); refine box_event ?hg (N := 4) ?hd (cs := #[.int .i64 0, .int .i64 0, .int .i64 0]) (t := 24) ?hr ?_; (case hd => rfl); (case hg => rfl); (case hr => first | (go_simp; done) | (go_simp; rfl)); intro ga hg w2 hbox hb; have GA := Aside0.mk (bsz (bl HB.out) hg : w.heap.size ≤ ga); have RA := Aside0.mk (nlt (kp BR.out) hg : gr ≠ ga); have AR := Aside0.mk (ngt (kp BR.out) hg : ga ≠ gr); replace BR := Aside0.mk (blk_below (kp BR.out) hb); have BA := Aside0.mk hbox; replace HB := Aside0.mk (below_step (bl HB.out) hb); obtain ⟨a0, a1, a2⟩ := hc3 BA.out; obtain ⟨f0, f1, f2⟩ := hf3 BA.out; clear hbox hb hg)
            | (go_at_call 39; (with_reducible refine (strings_Cut.calls s ⟨#[101]⟩ rest ten true _ HC.out).mono ?_); rintro e w3 ⟨rfl, ⟨nd, rfl⟩⟩; clear HC)
            | (go_at_call 39; (with_reducible refine (strings_Cut.calls rest ⟨#[47]⟩ num den true _ HD.out).mono ?_); rintro e w4 ⟨rfl, ⟨nd, rfl⟩⟩; clear HD)
            | ((with_reducible refine gate_dst (N := 11) rfl ?_); refine box_event ?hg (N := 11) ?hd (cs := #[.bool false]) (t := 4) ?hr ?_; (case hd => rfl); (case hg => rfl); (case hr => first | (go_simp; done) | (go_simp; rfl)); intro go hg w5 hbox hb; have GO := Aside0.mk (bsz (bl HB.out) hg : w.heap.size ≤ go); have RO := Aside0.mk (nlt (kp BR.out) hg : gr ≠ go); have OR := Aside0.mk (ngt (kp BR.out) hg : go ≠ gr); have AO := Aside0.mk (nlt (kp (p3_2 (kp (p3_1 (kp (p3_0 (kp BA.out))))))) hg : ga ≠ go); have OA := Aside0.mk (ngt (kp (p3_2 (kp (p3_1 (kp (p3_0 (kp BA.out))))))) hg : go ≠ ga); replace BR := Aside0.mk (blk_below (kp BR.out) hb); replace BA := Aside0.mk (blk_below (kp (p3_2 (kp (p3_1 (kp (p3_0 (kp BA.out))))))) hb); replace HB := Aside0.mk (below_step (bl HB.out) hb); have BO := Aside0.mk hbox; clear a0 a1 a2 f0 f1 f2; obtain ⟨a0, a1, a2⟩ := hc3 BA.out; obtain ⟨f0, f1, f2⟩ := hf3 BA.out; have o0 := hc1 BO.out; have o1 := blk_frozen BO.out 0; have na := AO.out; have nb := OA.out; clear hbox hb hg)
            | (go_at_call 40; (with_reducible refine (number_calls num HN.out.1 n on (true) HN.out.2 go _ (Glob.use HG.out (by decide) (bl HB.out)) (kp (p1_0 (kp BO.out)))).mono ?_); rintro e w6 ⟨rfl, RD⟩; replace BR := Aside0.mk (RD.hk gr _ RO.out (kp BR.out)); replace BA := Aside0.mk (RD.hk ga _ AO.out (kp BA.out)); replace HB := Aside0.mk (RD.hB w GO.out (bl HB.out)); replace BO := Aside0.mk RD.ho; clear a0 a1 a2 f0 f1 f2 o0 o1 RD; obtain ⟨a0, a1, a2⟩ := hc3 BA.out; obtain ⟨f0, f1, f2⟩ := hf3 BA.out; have o0 := hc1 BO.out; have o1 := blk_frozen BO.out 0; clear HN)
            | (go_at_call 40; (with_reducible refine (number_calls den HM.out.1 m om (true && on) HM.out.2 go _ (Glob.use HG.out (by decide) (bl HB.out)) (kp BO.out)).mono ?_); rintro e w7 ⟨rfl, RD⟩; replace BR := Aside0.mk (RD.hk gr _ RO.out (kp BR.out)); replace BA := Aside0.mk (RD.hk ga _ AO.out (kp (p3_0 (kp BA.out)))); replace HB := Aside0.mk (RD.hB w GO.out (bl HB.out)); replace BO := Aside0.mk RD.ho; clear a0 a1 a2 f0 f1 f2 o0 o1 RD; obtain ⟨a0, a1, a2⟩ := hc3 BA.out; obtain ⟨f0, f1, f2⟩ := hf3 BA.out; have o0 := hc1 BO.out; have o1 := blk_frozen BO.out 0; clear HM)
            | (go_at_call 40; (with_reducible refine (number_calls ten HT.out.1 t ot ((true && on) && om) HT.out.2 go _ (Glob.use HG.out (by decide) (bl HB.out)) (kp BO.out)).mono ?_); rintro e w8 ⟨rfl, RD⟩; replace BR := Aside0.mk (RD.hk gr _ RO.out (kp BR.out)); replace BA := Aside0.mk (RD.hk ga _ AO.out (kp (p3_1 (kp BA.out)))); replace HB := Aside0.mk (RD.hB w GO.out (bl HB.out)); replace BO := Aside0.mk RD.ho; clear a0 a1 a2 f0 f1 f2 o0 o1 RD; obtain ⟨a0, a1, a2⟩ := hc3 BA.out; obtain ⟨f0, f1, f2⟩ := hf3 BA.out; have o0 := hc1 BO.out; have o1 := blk_frozen BO.out 0; clear HT))
      have hr := HR.out
      clear HR
      obtain ⟨B, hB⟩ : ∃ B, (((true && on) && om) && ot) = B := ⟨_, rfl⟩
      rw [show (on && om && ot) = B from by rw [← hB]; simp] at hr
      rw [hB] at o0
      clear hB
      obtain ⟨r0_, r1_, r2_⟩ := hf3 BR.out
      obtain ⟨q0_, q1_, q2_⟩ := hc3 BR.out
      have ra := RA.out
      have ar := AR.out
      cases B with
      | false =>
        simp only [Bool.false_eq_true, if_false, Option.some.injEq, Prod.mk.injEq] at hr
        obtain ⟨rfl, rfl, rfl, rfl⟩ := hr
        go_wp2
        refine bodyPost_ret (results_ct rfl _ _ gr 24 #[.int .i64 0, .int .i64 0, .int .i64 0] (0, 0) _ rfl (kp (p3_2 (kp (p3_1 (kp (p3_0 (kp BR.out))))))) hu24 rfl (by kernel_rfl)) rfl ?_
        exact ⟨rfl, bl HB.out⟩
      | true =>
        simp only [if_true] at hr
        replace hr := Option.bind_eq_some_iff.mp hr
        obtain ⟨x, hx, hr⟩ := hr
        have HX := Aside0.mk hx
        clear hx
        by_cases hxs : x.toList = s.toList
        · simp only [if_pos hxs, Option.some.injEq, Prod.mk.injEq] at hr
          obtain ⟨rfl, rfl, rfl, rfl⟩ := hr
          have b0 : (x.toList == s.toList) = true := beq_iff_eq.mpr hxs
          go_wp2_with (first | (go_at_call 22; (with_reducible refine (frac_Text.calls k n m t x _ (Glob.use HG.out (by decide) (bl HB.out)) HX.out).mono ?_); rintro e w9 ⟨rfl, hb⟩; replace BR := Aside0.mk (blk_below (kp BR.out) hb); replace BA := Aside0.mk (blk_below (kp (p3_2 (kp BA.out))) hb); replace HB := Aside0.mk (below_step (bl HB.out) hb); clear a0 a1 a2 f0 f1 f2 o0 o1 r0_ r1_ r2_ q0_ q1_ q2_ HX; obtain ⟨a0, a1, a2⟩ := hc3 BA.out; obtain ⟨r0_, r1_, r2_⟩ := hf3 BR.out; obtain ⟨q0_, q1_, q2_⟩ := hc3 BR.out; clear hb))
          refine bodyPost_ret (results_ct rfl _ _ gr 24 #[.int .i64 n, .int .i64 m, .int .i64 t] (0, 0) _ rfl (kp (p3_2 (kp (p3_1 (kp (p3_0 (kp BR.out))))))) hu24 rfl (by kernel_rfl)) rfl ?_
          exact ⟨rfl, bl HB.out⟩
        · simp only [if_neg hxs, Option.some.injEq, Prod.mk.injEq] at hr
          have b0 : (x.toList == s.toList) = false := beq_eq_false_iff_ne.mpr hxs
          obtain ⟨rfl, rfl, rfl, rfl⟩ := hr
          go_wp2_with (first | (go_at_call 22; (with_reducible refine (frac_Text.calls k n m t x _ (Glob.use HG.out (by decide) (bl HB.out)) HX.out).mono ?_); rintro e w9 ⟨rfl, hb⟩; replace BR := Aside0.mk (blk_below (kp BR.out) hb); replace BA := Aside0.mk (blk_below (kp (p3_2 (kp BA.out))) hb); replace HB := Aside0.mk (below_step (bl HB.out) hb); clear a0 a1 a2 f0 f1 f2 o0 o1 r0_ r1_ r2_ q0_ q1_ q2_ HX; obtain ⟨a0, a1, a2⟩ := hc3 BA.out; obtain ⟨r0_, r1_, r2_⟩ := hf3 BR.out; obtain ⟨q0_, q1_, q2_⟩ := hc3 BR.out; clear hb))
          refine bodyPost_ret (results_ct rfl _ _ gr 24 #[.int .i64 0, .int .i64 0, .int .i64 0] (0, 0) _ rfl (kp (p3_2 (kp (p3_1 (kp (p3_0 (kp BR.out))))))) hu24 rfl (by kernel_rfl)) rfl ?_
          exact ⟨rfl, bl HB.out⟩
end Go.Proofs.YtnndaackjgnhhaaDoor
