/- Printed by a program of this session (wip/tools/prt.py) out of the translation: plain functions, and that the calls come to just them. No conditions beyond those that stand in each theorem. -/
import Derived.Test.YtnndaackjgnhhaaDoorGlob
import Derived.Test.YtnndaackjgnhhaaDoorPFracReckonsx0
import Derived.Test.YtnndaackjgnhhaaDoorPFracReckonsx1
namespace Go.Proofs.YtnndaackjgnhhaaDoor.PFracReckons
open Go.Proofs.YtnndaackjgnhhaaDoor.Sq Go.RowKit Go.Proofs.YtnndaackjgnhhaaDoorW.PrintWords Go.Proofs.YtnndaackjgnhhaaDoorW.PrintLast Go.Proofs.YtnndaackjgnhhaaDoorW.PrintMore Go.Proofs.YtnndaackjgnhhaaDoor.PB Go.Proofs.YtnndaackjgnhhaaDoor.PC Go.Proofs.YtnndaackjgnhhaaDoor.PD
attribute [local go_sem] max2_int min2_int max_two min_two max_three min_three max_four min_four   -- for this text's walks alone
set_option linter.unusedVariables false
set_option linter.unusedSimpArgs false

attribute [local go_sem high] eqA24
/-! ### drachmlaw02_reckons: function 18 -/
def drachmlaw02_reckons.f (k : Nat) (a0_0 : Int) (a0_1 : Int) (a0_2 : Int) (a1_0 : Int) (a1_1 : Int) (a1_2 : Int) (a2 : Int) : Option (Bool) := (frac_Mul.f k a0_0 a0_1 a0_2 a1_0 a1_1 a1_2).bind fun bt103 => ((frac_Div.f k a0_0 a0_1 a0_2 a1_0 a1_1 a1_2).bind fun bt108 => ((frac_Pow.f k a0_0 a0_1 a0_2 a2).bind fun bt113 => ((drachmref02_Mul.f k a0_0 a0_1 a0_2 a1_0 a1_1 a1_2).bind fun bt118 => ((drachmref02_Div.f k a0_0 a0_1 a0_2 a1_0 a1_1 a1_2).bind fun bt123 => ((drachmref02_Pow.f k a0_0 a0_1 a0_2 a2).bind fun bt128 => (if (bt103.1 == bt118.1 && (bt103.2.1 == bt118.2.1 && (bt103.2.2.1 == bt118.2.2.1))) = true then (if bt103.2.2.2 = bt118.2.2.2 then (if (bt108.1 == bt123.1 && (bt108.2.1 == bt123.2.1 && (bt108.2.2.1 == bt123.2.2.1))) = true then (if bt108.2.2.2 = bt123.2.2.2 then (if (bt113.1 == bt128.1 && (bt113.2.1 == bt128.2.1 && (bt113.2.2.1 == bt128.2.2.1))) = true then (some (bt113.2.2.2 == bt128.2.2.2)) else (none)) else (none)) else (none)) else (none)) else (none)))))))
theorem drachmlaw02_reckons.mono : ∀ a0 a1 a2 a3 a4 a5 a6 k, LeO (drachmlaw02_reckons.f k a0 a1 a2 a3 a4 a5 a6) (drachmlaw02_reckons.f (k + 1) a0 a1 a2 a3 a4 a5 a6) := by
 intro a0 a1 a2 a3 a4 a5 a6 k
 unfold drachmlaw02_reckons.f
 repeat' first
   | (with_reducible exact drachmref02_Div.mono _ _ _ _ _ _ _)
   | (with_reducible exact drachmref02_Mul.mono _ _ _ _ _ _ _)
   | (with_reducible exact drachmref02_Pow.mono _ _ _ _ _)
   | (with_reducible exact frac_Div.mono _ _ _ _ _ _ _)
   | (with_reducible exact frac_Mul.mono _ _ _ _ _ _ _)
   | (with_reducible exact frac_Pow.mono _ _ _ _ _)
   | (with_reducible exact LeO.refl _)
   | (with_reducible exact LeO.none _)
   | (with_reducible refine LeO.ite ?_ ?_)
   | (with_reducible refine LeO.bind ?_ (fun _ => ?_))
   | exact drachmref02_Div.mono _ _ _ _ _ _ _
   | exact drachmref02_Mul.mono _ _ _ _ _ _ _
   | exact drachmref02_Pow.mono _ _ _ _ _
   | exact frac_Div.mono _ _ _ _ _ _ _
   | exact frac_Mul.mono _ _ _ _ _ _ _
   | exact frac_Pow.mono _ _ _ _ _
   | exact LeO.none _
   | refine LeO.ite ?_ ?_
   | refine LeO.bind ?_ (fun _ => ?_)
set_option maxHeartbeats 8000000 in
set_option maxRecDepth 100000 in
theorem drachmlaw02_reckons.calls (k : Nat) (a0_0 : Int) (a0_1 : Int) (a0_2 : Int) (a1_0 : Int) (a1_1 : Int) (a1_2 : Int) (a2 : Int) (r : Bool) (w : World) (hG : Glob [0, 1] w) (h : drachmlaw02_reckons.f k a0_0 a0_1 a0_2 a1_0 a1_1 a1_2 a2 = some r) :
  Calls Tryd.prog 18 #[.agg #[.int .i64 a0_0, .int .i64 a0_1, .int .i64 a0_2], .agg #[.int .i64 a1_0, .int .i64 a1_1, .int .i64 a1_2], .int .i64 a2] w fun e w' => e = .returned (.bool r) ∧ Below w.heap.size w w' := by
 have hu24 := Tryd.underlying24
 have hu30 := Tryd.underlying30
 have HB := Aside0.mk (Below.refl w.heap.size w)
 have H : ((frac_Mul.f k a0_0 a0_1 a0_2 a1_0 a1_1 a1_2).bind fun bt103 => ((frac_Div.f k a0_0 a0_1 a0_2 a1_0 a1_1 a1_2).bind fun bt108 => ((frac_Pow.f k a0_0 a0_1 a0_2 a2).bind fun bt113 => ((drachmref02_Mul.f k a0_0 a0_1 a0_2 a1_0 a1_1 a1_2).bind fun bt118 => ((drachmref02_Div.f k a0_0 a0_1 a0_2 a1_0 a1_1 a1_2).bind fun bt123 => ((drachmref02_Pow.f k a0_0 a0_1 a0_2 a2).bind fun bt128 => (if (bt103.1 == bt118.1 && (bt103.2.1 == bt118.2.1 && (bt103.2.2.1 == bt118.2.2.1))) = true then (if bt103.2.2.2 = bt118.2.2.2 then (if (bt108.1 == bt123.1 && (bt108.2.1 == bt123.2.1 && (bt108.2.2.1 == bt123.2.2.1))) = true then (if bt108.2.2.2 = bt123.2.2.2 then (if (bt113.1 == bt128.1 && (bt113.2.1 == bt128.2.1 && (bt113.2.2.1 == bt128.2.2.1))) = true then (some (bt113.2.2.2 == bt128.2.2.2)) else (none)) else (none)) else (none)) else (none)) else (none)))))))) = some r := h
 clear h
 replace H := Option.bind_eq_some_iff.mp H
 obtain ⟨⟨t103, t104, t105, t106⟩, A40, H⟩ := H
 replace H : ((frac_Div.f k a0_0 a0_1 a0_2 a1_0 a1_1 a1_2).bind fun bt108 => ((frac_Pow.f k a0_0 a0_1 a0_2 a2).bind fun bt113 => ((drachmref02_Mul.f k a0_0 a0_1 a0_2 a1_0 a1_1 a1_2).bind fun bt118 => ((drachmref02_Div.f k a0_0 a0_1 a0_2 a1_0 a1_1 a1_2).bind fun bt123 => ((drachmref02_Pow.f k a0_0 a0_1 a0_2 a2).bind fun bt128 => (if (t103 == bt118.1 && (t104 == bt118.2.1 && (t105 == bt118.2.2.1))) = true then (if t106 = bt118.2.2.2 then (if (bt108.1 == bt123.1 && (bt108.2.1 == bt123.2.1 && (bt108.2.2.1 == bt123.2.2.1))) = true then (if bt108.2.2.2 = bt123.2.2.2 then (if (bt113.1 == bt128.1 && (bt113.2.1 == bt128.2.1 && (bt113.2.2.1 == bt128.2.2.1))) = true then (some (bt113.2.2.2 == bt128.2.2.2)) else (none)) else (none)) else (none)) else (none)) else (none))))))) = some r := H
 have A4 := Aside0.mk A40
 clear A40
 replace H := Option.bind_eq_some_iff.mp H
 obtain ⟨⟨t108, t109, t110, t111⟩, A50, H⟩ := H
 replace H : ((frac_Pow.f k a0_0 a0_1 a0_2 a2).bind fun bt113 => ((drachmref02_Mul.f k a0_0 a0_1 a0_2 a1_0 a1_1 a1_2).bind fun bt118 => ((drachmref02_Div.f k a0_0 a0_1 a0_2 a1_0 a1_1 a1_2).bind fun bt123 => ((drachmref02_Pow.f k a0_0 a0_1 a0_2 a2).bind fun bt128 => (if (t103 == bt118.1 && (t104 == bt118.2.1 && (t105 == bt118.2.2.1))) = true then (if t106 = bt118.2.2.2 then (if (t108 == bt123.1 && (t109 == bt123.2.1 && (t110 == bt123.2.2.1))) = true then (if t111 = bt123.2.2.2 then (if (bt113.1 == bt128.1 && (bt113.2.1 == bt128.2.1 && (bt113.2.2.1 == bt128.2.2.1))) = true then (some (bt113.2.2.2 == bt128.2.2.2)) else (none)) else (none)) else (none)) else (none)) else (none)))))) = some r := H
 have A5 := Aside0.mk A50
 clear A50
 replace H := Option.bind_eq_some_iff.mp H
 obtain ⟨⟨t113, t114, t115, t116⟩, A60, H⟩ := H
 replace H : ((drachmref02_Mul.f k a0_0 a0_1 a0_2 a1_0 a1_1 a1_2).bind fun bt118 => ((drachmref02_Div.f k a0_0 a0_1 a0_2 a1_0 a1_1 a1_2).bind fun bt123 => ((drachmref02_Pow.f k a0_0 a0_1 a0_2 a2).bind fun bt128 => (if (t103 == bt118.1 && (t104 == bt118.2.1 && (t105 == bt118.2.2.1))) = true then (if t106 = bt118.2.2.2 then (if (t108 == bt123.1 && (t109 == bt123.2.1 && (t110 == bt123.2.2.1))) = true then (if t111 = bt123.2.2.2 then (if (t113 == bt128.1 && (t114 == bt128.2.1 && (t115 == bt128.2.2.1))) = true then (some (t116 == bt128.2.2.2)) else (none)) else (none)) else (none)) else (none)) else (none))))) = some r := H
 have A6 := Aside0.mk A60
 clear A60
 replace H := Option.bind_eq_some_iff.mp H
 obtain ⟨⟨t118, t119, t120, t121⟩, A70, H⟩ := H
 replace H : ((drachmref02_Div.f k a0_0 a0_1 a0_2 a1_0 a1_1 a1_2).bind fun bt123 => ((drachmref02_Pow.f k a0_0 a0_1 a0_2 a2).bind fun bt128 => (if (t103 == t118 && (t104 == t119 && (t105 == t120))) = true then (if t106 = t121 then (if (t108 == bt123.1 && (t109 == bt123.2.1 && (t110 == bt123.2.2.1))) = true then (if t111 = bt123.2.2.2 then (if (t113 == bt128.1 && (t114 == bt128.2.1 && (t115 == bt128.2.2.1))) = true then (some (t116 == bt128.2.2.2)) else (none)) else (none)) else (none)) else (none)) else (none)))) = some r := H
 have A7 := Aside0.mk A70
 clear A70
 replace H := Option.bind_eq_some_iff.mp H
 obtain ⟨⟨t123, t124, t125, t126⟩, A80, H⟩ := H
 replace H : ((drachmref02_Pow.f k a0_0 a0_1 a0_2 a2).bind fun bt128 => (if (t103 == t118 && (t104 == t119 && (t105 == t120))) = true then (if t106 = t121 then (if (t108 == t123 && (t109 == t124 && (t110 == t125))) = true then (if t111 = t126 then (if (t113 == bt128.1 && (t114 == bt128.2.1 && (t115 == bt128.2.2.1))) = true then (some (t116 == bt128.2.2.2)) else (none)) else (none)) else (none)) else (none)) else (none))) = some r := H
 have A8 := Aside0.mk A80
 clear A80
 replace H := Option.bind_eq_some_iff.mp H
 obtain ⟨⟨t128, t129, t130, t131⟩, A90, H⟩ := H
 replace H : (if (t103 == t118 && (t104 == t119 && (t105 == t120))) = true then (if t106 = t121 then (if (t108 == t123 && (t109 == t124 && (t110 == t125))) = true then (if t111 = t126 then (if (t113 == t128 && (t114 == t129 && (t115 == t130))) = true then (some (t116 == t131)) else (none)) else (none)) else (none)) else (none)) else (none)) = some r := H
 have A9 := Aside0.mk A90
 clear A90
 by_cases c10 : (t103 == t118 && (t104 == t119 && (t105 == t120))) = true
 ·rw [if_pos c10] at H
  have c10b0 : (t103 == t118 && (t104 == t119 && (t105 == t120))) = true := c10
  (try (have c10b1 : decide (t103 = t118 && (t104 == t119 && (t105 == t120))) = true := by simpa using c10))
  (try (have c10b2 : (t103 == t118 && (t104 == t119 && (t105 == t120))) = true := by simpa using c10))
  clear c10
  by_cases c11 : t106 = t121
  ·rw [if_pos c11] at H
   have c11b0 : (t106 == t121) = true := beq_iff_eq.mpr c11
   have c11b1 : (t106 != t121) = false := bne_eq_false_iff_eq.mpr c11
   clear c11
   by_cases c12 : (t108 == t123 && (t109 == t124 && (t110 == t125))) = true
   ·rw [if_pos c12] at H
    have c12b0 : (t108 == t123 && (t109 == t124 && (t110 == t125))) = true := c12
    (try (have c12b1 : decide (t108 = t123 && (t109 == t124 && (t110 == t125))) = true := by simpa using c12))
    (try (have c12b2 : (t108 == t123 && (t109 == t124 && (t110 == t125))) = true := by simpa using c12))
    clear c12
    by_cases c13 : t111 = t126
    ·rw [if_pos c13] at H
     have c13b0 : (t111 == t126) = true := beq_iff_eq.mpr c13
     have c13b1 : (t111 != t126) = false := bne_eq_false_iff_eq.mpr c13
     clear c13
     by_cases c14 : (t113 == t128 && (t114 == t129 && (t115 == t130))) = true
     ·rw [if_pos c14] at H
      have c14b0 : (t113 == t128 && (t114 == t129 && (t115 == t130))) = true := c14
      (try (have c14b1 : decide (t113 = t128 && (t114 == t129 && (t115 == t130))) = true := by simpa using c14))
      (try (have c14b2 : (t113 == t128 && (t114 == t129 && (t115 == t130))) = true := by simpa using c14))
      clear c14
      obtain rfl := Option.some.inj H
      go_enter Tryd.func18, Tryd.ntmps18
      go_wp2_with (first | ((with_reducible refine gate_dst (N := 3) rfl ?_); refine box_event ?hg (N := 3) ?hd (cs := #[.int .i64 a0_0, .int .i64 a0_1, .int .i64 a0_2]) (t := 24) ?hr ?_; (case hd => rfl); (case hg => rfl); (case hr => first | (go_simp; done) | (go_simp; rfl)); intro gb101 hg w15 hbox hb; have n0_ := Aside0.mk (below_step (bl HB.out) hb); have n1_ := Aside0.mk (hbox); have n2_ := Aside0.mk ((by rw [hg]; exact (below_size (bl HB.out)) : w.heap.size ≤ gb101)); have n3_ := Aside0.mk ((by rw [hg]; exact (below_size (bl HB.out)) : w.heap.size ≤ gb101)); clear HB; have HB := n0_; have BK101 := n1_; have GW101 := n2_; have GE101 := n3_; clear n0_ n1_ n2_ n3_; clear hb hbox hg) | ((with_reducible refine gate_dst (N := 4) rfl ?_); refine box_event ?hg (N := 4) ?hd (cs := #[.int .i64 a1_0, .int .i64 a1_1, .int .i64 a1_2]) (t := 24) ?hr ?_; (case hd => rfl); (case hg => rfl); (case hr => first | (go_simp; done) | (go_simp; rfl)); intro gb102 hg w16 hbox hb; have n0_ := Aside0.mk (blk_below (kp BK101.out) hb); have n1_ := Aside0.mk (below_step (bl HB.out) hb); have n2_ := Aside0.mk (hbox); have n3_ := Aside0.mk ((by rw [hg]; exact (below_size (bl HB.out)) : w.heap.size ≤ gb102)); have n4_ := Aside0.mk ((by rw [hg]; exact (below_size (bl HB.out)) : w.heap.size ≤ gb102)); have n5_ := Aside0.mk ((by rw [hg]; exact Nat.ne_of_lt (blk_lt (kp BK101.out)) : gb101 ≠ gb102)); have n6_ := Aside0.mk ((by rw [hg]; exact Nat.ne_of_gt (blk_lt (kp BK101.out)) : gb102 ≠ gb101)); clear BK101; clear HB; have BK101 := n0_; have HB := n1_; have BK102 := n2_; have GW102 := n3_; have GE102 := n4_; have NB101_102 := n5_; have NB102_101 := n6_; clear n0_ n1_ n2_ n3_ n4_ n5_ n6_; clear hb hbox hg; have hnb17 := NB101_102.out; have hnc17 := NB102_101.out; obtain ⟨hcz18_0, hcz18_1, hcz18_2⟩ := hc3 BK101.out; obtain ⟨hfz18_0, hfz18_1, hfz18_2⟩ := hf3 BK101.out; obtain ⟨hcz19_0, hcz19_1, hcz19_2⟩ := hc3 BK102.out; obtain ⟨hfz19_0, hfz19_1, hfz19_2⟩ := hf3 BK102.out) | ((with_reducible refine gate_callee (f := 16) rfl ?_); refine goesL_ (some 19) rfl rfl Tryd.func16 (by kernel_rfl) rfl #[.agg #[.int .i64 a0_0, .int .i64 a0_1, .int .i64 a0_2], .agg #[.int .i64 a1_0, .int .i64 a1_1, .int .i64 a1_2]] rfl (by (try simp only [List.map_toArray, List.map_cons, List.map_nil]); first | done | rfl | (simp only [List.length_drop, List.length_take]; rfl)) ?_; (with_reducible refine (frac_Mul.calls k a0_0 a0_1 a0_2 a1_0 a1_1 a1_2 t103 t104 t105 t106 _ (Glob.use hG (by decide) (bl HB.out)) A4.out).mono ?_); rintro e w20 ⟨rfl, hb⟩; refine ⟨_, rfl, ?_⟩; replace BK101 := Aside0.mk (blk_below (kp BK101.out) hb); replace BK102 := Aside0.mk (blk_below (kp BK102.out) hb); replace HB := Aside0.mk (below_step (bl HB.out) hb); (try clear hb); (try clear hb2); (try clear hk); (try clear hi)) | ((with_reducible refine gate_dst (N := 7) rfl ?_); refine box_event ?hg (N := 7) ?hd (cs := #[.int .i64 0, .int .i64 0, .int .i64 0]) (t := 24) ?hr ?_; (case hd => rfl); (case hg => rfl); (case hr => first | (go_simp; done) | (go_simp; rfl)); intro gb107 hg w21 hbox hb; have n0_ := Aside0.mk (blk_below (kp BK101.out) hb); have n1_ := Aside0.mk (blk_below (kp BK102.out) hb); have n2_ := Aside0.mk (below_step (bl HB.out) hb); have n3_ := Aside0.mk (hbox); have n4_ := Aside0.mk ((by rw [hg]; exact (below_size (bl HB.out)) : w.heap.size ≤ gb107)); have n5_ := Aside0.mk ((by rw [hg]; exact (below_size (bl HB.out)) : w.heap.size ≤ gb107)); have n6_ := Aside0.mk ((by rw [hg]; exact Nat.ne_of_lt (blk_lt (kp BK101.out)) : gb101 ≠ gb107)); have n7_ := Aside0.mk ((by rw [hg]; exact Nat.ne_of_gt (blk_lt (kp BK101.out)) : gb107 ≠ gb101)); have n8_ := Aside0.mk ((by rw [hg]; exact Nat.ne_of_lt (blk_lt (kp BK102.out)) : gb102 ≠ gb107)); have n9_ := Aside0.mk ((by rw [hg]; exact Nat.ne_of_gt (blk_lt (kp BK102.out)) : gb107 ≠ gb102)); clear BK101; clear BK102; clear HB; have BK101 := n0_; have BK102 := n1_; have HB := n2_; have BK107 := n3_; have GW107 := n4_; have GE107 := n5_; have NB101_107 := n6_; have NB107_101 := n7_; have NB102_107 := n8_; have NB107_102 := n9_; clear n0_ n1_ n2_ n3_ n4_ n5_ n6_ n7_ n8_ n9_; clear hb hbox hg; have hnb22 := NB107_101.out; have hnc22 := NB101_107.out; have hnb23 := NB107_102.out; have hnc23 := NB102_107.out; obtain ⟨hcz24_0, hcz24_1, hcz24_2⟩ := hc3 BK107.out; obtain ⟨hfz24_0, hfz24_1, hfz24_2⟩ := hf3 BK107.out; obtain ⟨hcz25_0, hcz25_1, hcz25_2⟩ := hc3 BK101.out; obtain ⟨hfz25_0, hfz25_1, hfz25_2⟩ := hf3 BK101.out; obtain ⟨hcz26_0, hcz26_1, hcz26_2⟩ := hc3 BK102.out; obtain ⟨hfz26_0, hfz26_1, hfz26_2⟩ := hf3 BK102.out) | ((with_reducible refine gate_callee (f := 17) rfl ?_); refine goesL_ (some 25) rfl rfl Tryd.func17 (by kernel_rfl) rfl #[.agg #[.int .i64 a0_0, .int .i64 a0_1, .int .i64 a0_2], .agg #[.int .i64 a1_0, .int .i64 a1_1, .int .i64 a1_2]] rfl (by (try simp only [List.map_toArray, List.map_cons, List.map_nil]); first | done | rfl | (simp only [List.length_drop, List.length_take]; rfl)) ?_; (with_reducible refine (frac_Div.calls k a0_0 a0_1 a0_2 a1_0 a1_1 a1_2 t108 t109 t110 t111 _ (Glob.use hG (by decide) (bl HB.out)) A5.out).mono ?_); rintro e w27 ⟨rfl, hb⟩; refine ⟨_, rfl, ?_⟩; replace BK101 := Aside0.mk (blk_below (kp BK101.out) hb); replace BK102 := Aside0.mk (blk_below (kp BK102.out) hb); replace BK107 := Aside0.mk (blk_below (kp (p3_2 (kp (p3_1 (kp (p3_0 (kp BK107.out))))))) hb); replace HB := Aside0.mk (below_step (bl HB.out) hb); (try clear hb); (try clear hb2); (try clear hk); (try clear hi)) | ((with_reducible refine gate_dst (N := 9) rfl ?_); refine box_event ?hg (N := 9) ?hd (cs := #[.int .i64 0, .int .i64 0, .int .i64 0]) (t := 24) ?hr ?_; (case hd => rfl); (case hg => rfl); (case hr => first | (go_simp; done) | (go_simp; rfl)); intro gb112 hg w28 hbox hb; have n0_ := Aside0.mk (blk_below (kp BK101.out) hb); have n1_ := Aside0.mk (blk_below (kp BK102.out) hb); have n2_ := Aside0.mk (blk_below (kp BK107.out) hb); have n3_ := Aside0.mk (below_step (bl HB.out) hb); have n4_ := Aside0.mk (hbox); have n5_ := Aside0.mk ((by rw [hg]; exact (below_size (bl HB.out)) : w.heap.size ≤ gb112)); have n6_ := Aside0.mk ((by rw [hg]; exact (below_size (bl HB.out)) : w.heap.size ≤ gb112)); have n7_ := Aside0.mk ((by rw [hg]; exact Nat.ne_of_lt (blk_lt (kp BK101.out)) : gb101 ≠ gb112)); have n8_ := Aside0.mk ((by rw [hg]; exact Nat.ne_of_gt (blk_lt (kp BK101.out)) : gb112 ≠ gb101)); have n9_ := Aside0.mk ((by rw [hg]; exact Nat.ne_of_lt (blk_lt (kp BK102.out)) : gb102 ≠ gb112)); have n10_ := Aside0.mk ((by rw [hg]; exact Nat.ne_of_gt (blk_lt (kp BK102.out)) : gb112 ≠ gb102)); have n11_ := Aside0.mk ((by rw [hg]; exact Nat.ne_of_lt (blk_lt (kp BK107.out)) : gb107 ≠ gb112)); have n12_ := Aside0.mk ((by rw [hg]; exact Nat.ne_of_gt (blk_lt (kp BK107.out)) : gb112 ≠ gb107)); clear BK101; clear BK102; clear BK107; clear HB; have BK101 := n0_; have BK102 := n1_; have BK107 := n2_; have HB := n3_; have BK112 := n4_; have GW112 := n5_; have GE112 := n6_; have NB101_112 := n7_; have NB112_101 := n8_; have NB102_112 := n9_; have NB112_102 := n10_; have NB107_112 := n11_; have NB112_107 := n12_; clear n0_ n1_ n2_ n3_ n4_ n5_ n6_ n7_ n8_ n9_ n10_ n11_ n12_; clear hb hbox hg; have hnb29 := NB112_101.out; have hnc29 := NB101_112.out; have hnb30 := NB112_102.out; have hnc30 := NB102_112.out; have hnb31 := NB112_107.out; have hnc31 := NB107_112.out; obtain ⟨hcz32_0, hcz32_1, hcz32_2⟩ := hc3 BK112.out; obtain ⟨hfz32_0, hfz32_1, hfz32_2⟩ := hf3 BK112.out; obtain ⟨hcz33_0, hcz33_1, hcz33_2⟩ := hc3 BK101.out; obtain ⟨hfz33_0, hfz33_1, hfz33_2⟩ := hf3 BK101.out) | ((with_reducible refine gate_callee (f := 19) rfl ?_); refine goesL_ (some 31) rfl rfl Tryd.func19 (by kernel_rfl) rfl #[.agg #[.int .i64 a0_0, .int .i64 a0_1, .int .i64 a0_2], .int .i64 a2] rfl (by (try simp only [List.map_toArray, List.map_cons, List.map_nil]); first | done | rfl | (simp only [List.length_drop, List.length_take]; rfl)) ?_; (with_reducible refine (frac_Pow.calls k a0_0 a0_1 a0_2 a2 t113 t114 t115 t116 _ (Glob.use hG (by decide) (bl HB.out)) A6.out).mono ?_); rintro e w34 ⟨rfl, hb⟩; refine ⟨_, rfl, ?_⟩; replace BK101 := Aside0.mk (blk_below (kp BK101.out) hb); replace BK102 := Aside0.mk (blk_below (kp BK102.out) hb); replace BK107 := Aside0.mk (blk_below (kp BK107.out) hb); replace BK112 := Aside0.mk (blk_below (kp (p3_2 (kp (p3_1 (kp (p3_0 (kp BK112.out))))))) hb); replace HB := Aside0.mk (below_step (bl HB.out) hb); (try clear hb); (try clear hb2); (try clear hk); (try clear hi)) | ((with_reducible refine gate_dst (N := 11) rfl ?_); refine box_event ?hg (N := 11) ?hd (cs := #[.int .i64 0, .int .i64 0, .int .i64 0]) (t := 24) ?hr ?_; (case hd => rfl); (case hg => rfl); (case hr => first | (go_simp; done) | (go_simp; rfl)); intro gb117 hg w35 hbox hb; have n0_ := Aside0.mk (blk_below (kp BK101.out) hb); have n1_ := Aside0.mk (blk_below (kp BK102.out) hb); have n2_ := Aside0.mk (blk_below (kp BK107.out) hb); have n3_ := Aside0.mk (blk_below (kp BK112.out) hb); have n4_ := Aside0.mk (below_step (bl HB.out) hb); have n5_ := Aside0.mk (hbox); have n6_ := Aside0.mk ((by rw [hg]; exact (below_size (bl HB.out)) : w.heap.size ≤ gb117)); have n7_ := Aside0.mk ((by rw [hg]; exact (below_size (bl HB.out)) : w.heap.size ≤ gb117)); have n8_ := Aside0.mk ((by rw [hg]; exact Nat.ne_of_lt (blk_lt (kp BK101.out)) : gb101 ≠ gb117)); have n9_ := Aside0.mk ((by rw [hg]; exact Nat.ne_of_gt (blk_lt (kp BK101.out)) : gb117 ≠ gb101)); have n10_ := Aside0.mk ((by rw [hg]; exact Nat.ne_of_lt (blk_lt (kp BK102.out)) : gb102 ≠ gb117)); have n11_ := Aside0.mk ((by rw [hg]; exact Nat.ne_of_gt (blk_lt (kp BK102.out)) : gb117 ≠ gb102)); have n12_ := Aside0.mk ((by rw [hg]; exact Nat.ne_of_lt (blk_lt (kp BK107.out)) : gb107 ≠ gb117)); have n13_ := Aside0.mk ((by rw [hg]; exact Nat.ne_of_gt (blk_lt (kp BK107.out)) : gb117 ≠ gb107)); have n14_ := Aside0.mk ((by rw [hg]; exact Nat.ne_of_lt (blk_lt (kp BK112.out)) : gb112 ≠ gb117)); have n15_ := Aside0.mk ((by rw [hg]; exact Nat.ne_of_gt (blk_lt (kp BK112.out)) : gb117 ≠ gb112)); clear BK101; clear BK102; clear BK107; clear BK112; clear HB; have BK101 := n0_; have BK102 := n1_; have BK107 := n2_; have BK112 := n3_; have HB := n4_; have BK117 := n5_; have GW117 := n6_; have GE117 := n7_; have NB101_117 := n8_; have NB117_101 := n9_; have NB102_117 := n10_; have NB117_102 := n11_; have NB107_117 := n12_; have NB117_107 := n13_; have NB112_117 := n14_; have NB117_112 := n15_; clear n0_ n1_ n2_ n3_ n4_ n5_ n6_ n7_ n8_ n9_ n10_ n11_ n12_ n13_ n14_ n15_; clear hb hbox hg; have hnb36 := NB117_101.out; have hnc36 := NB101_117.out; have hnb37 := NB117_102.out; have hnc37 := NB102_117.out; have hnb38 := NB117_107.out; have hnc38 := NB107_117.out; have hnb39 := NB117_112.out; have hnc39 := NB112_117.out; obtain ⟨hcz40_0, hcz40_1, hcz40_2⟩ := hc3 BK117.out; obtain ⟨hfz40_0, hfz40_1, hfz40_2⟩ := hf3 BK117.out; obtain ⟨hcz41_0, hcz41_1, hcz41_2⟩ := hc3 BK101.out; obtain ⟨hfz41_0, hfz41_1, hfz41_2⟩ := hf3 BK101.out; obtain ⟨hcz42_0, hcz42_1, hcz42_2⟩ := hc3 BK102.out; obtain ⟨hfz42_0, hfz42_1, hfz42_2⟩ := hf3 BK102.out) | ((with_reducible refine gate_callee (f := 35) rfl ?_); refine goesL_ (some 36) rfl rfl Tryd.func35 (by kernel_rfl) rfl #[.agg #[.int .i64 a0_0, .int .i64 a0_1, .int .i64 a0_2], .agg #[.int .i64 a1_0, .int .i64 a1_1, .int .i64 a1_2]] rfl (by (try simp only [List.map_toArray, List.map_cons, List.map_nil]); first | done | rfl | (simp only [List.length_drop, List.length_take]; rfl)) ?_; (with_reducible refine (drachmref02_Mul.calls k a0_0 a0_1 a0_2 a1_0 a1_1 a1_2 t118 t119 t120 t121 _ A7.out).mono ?_); rintro e w43 ⟨rfl, hb⟩; refine ⟨_, rfl, ?_⟩; replace BK101 := Aside0.mk (blk_below (kp BK101.out) hb); replace BK102 := Aside0.mk (blk_below (kp BK102.out) hb); replace BK107 := Aside0.mk (blk_below (kp BK107.out) hb); replace BK112 := Aside0.mk (blk_below (kp BK112.out) hb); replace BK117 := Aside0.mk (blk_below (kp (p3_2 (kp (p3_1 (kp (p3_0 (kp BK117.out))))))) hb); replace HB := Aside0.mk (below_step (bl HB.out) hb); (try clear hb); (try clear hb2); (try clear hk); (try clear hi)) | ((with_reducible refine gate_dst (N := 13) rfl ?_); refine box_event ?hg (N := 13) ?hd (cs := #[.int .i64 0, .int .i64 0, .int .i64 0, .int .i64 0]) (t := 30) ?hr ?_; (case hd => rfl); (case hg => rfl); (case hr => first | (go_simp; done) | (go_simp; rfl)); intro gb122 hg w44 hbox hb; have n0_ := Aside0.mk (blk_below (kp BK101.out) hb); have n1_ := Aside0.mk (blk_below (kp BK102.out) hb); have n2_ := Aside0.mk (blk_below (kp BK107.out) hb); have n3_ := Aside0.mk (blk_below (kp BK112.out) hb); have n4_ := Aside0.mk (blk_below (kp BK117.out) hb); have n5_ := Aside0.mk (below_step (bl HB.out) hb); have n6_ := Aside0.mk (hbox); have n7_ := Aside0.mk ((by rw [hg]; exact (below_size (bl HB.out)) : w.heap.size ≤ gb122)); have n8_ := Aside0.mk ((by rw [hg]; exact (below_size (bl HB.out)) : w.heap.size ≤ gb122)); have n9_ := Aside0.mk ((by rw [hg]; exact Nat.ne_of_lt (blk_lt (kp BK101.out)) : gb101 ≠ gb122)); have n10_ := Aside0.mk ((by rw [hg]; exact Nat.ne_of_gt (blk_lt (kp BK101.out)) : gb122 ≠ gb101)); have n11_ := Aside0.mk ((by rw [hg]; exact Nat.ne_of_lt (blk_lt (kp BK102.out)) : gb102 ≠ gb122)); have n12_ := Aside0.mk ((by rw [hg]; exact Nat.ne_of_gt (blk_lt (kp BK102.out)) : gb122 ≠ gb102)); have n13_ := Aside0.mk ((by rw [hg]; exact Nat.ne_of_lt (blk_lt (kp BK107.out)) : gb107 ≠ gb122)); have n14_ := Aside0.mk ((by rw [hg]; exact Nat.ne_of_gt (blk_lt (kp BK107.out)) : gb122 ≠ gb107)); have n15_ := Aside0.mk ((by rw [hg]; exact Nat.ne_of_lt (blk_lt (kp BK112.out)) : gb112 ≠ gb122)); have n16_ := Aside0.mk ((by rw [hg]; exact Nat.ne_of_gt (blk_lt (kp BK112.out)) : gb122 ≠ gb112)); have n17_ := Aside0.mk ((by rw [hg]; exact Nat.ne_of_lt (blk_lt (kp BK117.out)) : gb117 ≠ gb122)); have n18_ := Aside0.mk ((by rw [hg]; exact Nat.ne_of_gt (blk_lt (kp BK117.out)) : gb122 ≠ gb117)); clear BK101; clear BK102; clear BK107; clear BK112; clear BK117; clear HB; have BK101 := n0_; have BK102 := n1_; have BK107 := n2_; have BK112 := n3_; have BK117 := n4_; have HB := n5_; have BK122 := n6_; have GW122 := n7_; have GE122 := n8_; have NB101_122 := n9_; have NB122_101 := n10_; have NB102_122 := n11_; have NB122_102 := n12_; have NB107_122 := n13_; have NB122_107 := n14_; have NB112_122 := n15_; have NB122_112 := n16_; have NB117_122 := n17_; have NB122_117 := n18_; clear n0_ n1_ n2_ n3_ n4_ n5_ n6_ n7_ n8_ n9_ n10_ n11_ n12_ n13_ n14_ n15_ n16_ n17_ n18_; clear hb hbox hg; have hnb45 := NB122_101.out; have hnc45 := NB101_122.out; have hnb46 := NB122_102.out; have hnc46 := NB102_122.out; have hnb47 := NB122_107.out; have hnc47 := NB107_122.out; have hnb48 := NB122_112.out; have hnc48 := NB112_122.out; have hnb49 := NB122_117.out; have hnc49 := NB117_122.out; obtain ⟨hcz50_0, hcz50_1, hcz50_2, hcz50_3⟩ := hc4 BK122.out; obtain ⟨hfz50_0, hfz50_1, hfz50_2, hfz50_3⟩ := hf4 BK122.out; obtain ⟨hcz51_0, hcz51_1, hcz51_2⟩ := hc3 BK101.out; obtain ⟨hfz51_0, hfz51_1, hfz51_2⟩ := hf3 BK101.out; obtain ⟨hcz52_0, hcz52_1, hcz52_2⟩ := hc3 BK102.out; obtain ⟨hfz52_0, hfz52_1, hfz52_2⟩ := hf3 BK102.out) | ((with_reducible refine gate_callee (f := 36) rfl ?_); refine goesL_ (some 39) rfl rfl Tryd.func36 (by kernel_rfl) rfl #[.agg #[.int .i64 a0_0, .int .i64 a0_1, .int .i64 a0_2], .agg #[.int .i64 a1_0, .int .i64 a1_1, .int .i64 a1_2]] rfl (by (try simp only [List.map_toArray, List.map_cons, List.map_nil]); first | done | rfl | (simp only [List.length_drop, List.length_take]; rfl)) ?_; (with_reducible refine (drachmref02_Div.calls k a0_0 a0_1 a0_2 a1_0 a1_1 a1_2 t123 t124 t125 t126 _ A8.out).mono ?_); rintro e w53 ⟨rfl, hb⟩; refine ⟨_, rfl, ?_⟩; replace BK101 := Aside0.mk (blk_below (kp BK101.out) hb); replace BK102 := Aside0.mk (blk_below (kp BK102.out) hb); replace BK107 := Aside0.mk (blk_below (kp BK107.out) hb); replace BK112 := Aside0.mk (blk_below (kp BK112.out) hb); replace BK117 := Aside0.mk (blk_below (kp BK117.out) hb); replace BK122 := Aside0.mk (blk_below (kp (p4_3 (kp (p4_2 (kp (p4_1 (kp (p4_0 (kp BK122.out))))))))) hb); replace HB := Aside0.mk (below_step (bl HB.out) hb); (try clear hb); (try clear hb2); (try clear hk); (try clear hi)) | ((with_reducible refine gate_dst (N := 14) rfl ?_); refine box_event ?hg (N := 14) ?hd (cs := #[.int .i64 0, .int .i64 0, .int .i64 0, .int .i64 0]) (t := 30) ?hr ?_; (case hd => rfl); (case hg => rfl); (case hr => first | (go_simp; done) | (go_simp; rfl)); intro gb127 hg w54 hbox hb; have n0_ := Aside0.mk (blk_below (kp BK101.out) hb); have n1_ := Aside0.mk (blk_below (kp BK102.out) hb); have n2_ := Aside0.mk (blk_below (kp BK107.out) hb); have n3_ := Aside0.mk (blk_below (kp BK112.out) hb); have n4_ := Aside0.mk (blk_below (kp BK117.out) hb); have n5_ := Aside0.mk (blk_below (kp BK122.out) hb); have n6_ := Aside0.mk (below_step (bl HB.out) hb); have n7_ := Aside0.mk (hbox); have n8_ := Aside0.mk ((by rw [hg]; exact (below_size (bl HB.out)) : w.heap.size ≤ gb127)); have n9_ := Aside0.mk ((by rw [hg]; exact (below_size (bl HB.out)) : w.heap.size ≤ gb127)); have n10_ := Aside0.mk ((by rw [hg]; exact Nat.ne_of_lt (blk_lt (kp BK101.out)) : gb101 ≠ gb127)); have n11_ := Aside0.mk ((by rw [hg]; exact Nat.ne_of_gt (blk_lt (kp BK101.out)) : gb127 ≠ gb101)); have n12_ := Aside0.mk ((by rw [hg]; exact Nat.ne_of_lt (blk_lt (kp BK102.out)) : gb102 ≠ gb127)); have n13_ := Aside0.mk ((by rw [hg]; exact Nat.ne_of_gt (blk_lt (kp BK102.out)) : gb127 ≠ gb102)); have n14_ := Aside0.mk ((by rw [hg]; exact Nat.ne_of_lt (blk_lt (kp BK107.out)) : gb107 ≠ gb127)); have n15_ := Aside0.mk ((by rw [hg]; exact Nat.ne_of_gt (blk_lt (kp BK107.out)) : gb127 ≠ gb107)); have n16_ := Aside0.mk ((by rw [hg]; exact Nat.ne_of_lt (blk_lt (kp BK112.out)) : gb112 ≠ gb127)); have n17_ := Aside0.mk ((by rw [hg]; exact Nat.ne_of_gt (blk_lt (kp BK112.out)) : gb127 ≠ gb112)); have n18_ := Aside0.mk ((by rw [hg]; exact Nat.ne_of_lt (blk_lt (kp BK117.out)) : gb117 ≠ gb127)); have n19_ := Aside0.mk ((by rw [hg]; exact Nat.ne_of_gt (blk_lt (kp BK117.out)) : gb127 ≠ gb117)); have n20_ := Aside0.mk ((by rw [hg]; exact Nat.ne_of_lt (blk_lt (kp BK122.out)) : gb122 ≠ gb127)); have n21_ := Aside0.mk ((by rw [hg]; exact Nat.ne_of_gt (blk_lt (kp BK122.out)) : gb127 ≠ gb122)); clear BK101; clear BK102; clear BK107; clear BK112; clear BK117; clear BK122; clear HB; have BK101 := n0_; have BK102 := n1_; have BK107 := n2_; have BK112 := n3_; have BK117 := n4_; have BK122 := n5_; have HB := n6_; have BK127 := n7_; have GW127 := n8_; have GE127 := n9_; have NB101_127 := n10_; have NB127_101 := n11_; have NB102_127 := n12_; have NB127_102 := n13_; have NB107_127 := n14_; have NB127_107 := n15_; have NB112_127 := n16_; have NB127_112 := n17_; have NB117_127 := n18_; have NB127_117 := n19_; have NB122_127 := n20_; have NB127_122 := n21_; clear n0_ n1_ n2_ n3_ n4_ n5_ n6_ n7_ n8_ n9_ n10_ n11_ n12_ n13_ n14_ n15_ n16_ n17_ n18_ n19_ n20_ n21_; clear hb hbox hg; have hnb55 := NB127_101.out; have hnc55 := NB101_127.out; have hnb56 := NB127_102.out; have hnc56 := NB102_127.out; have hnb57 := NB127_107.out; have hnc57 := NB107_127.out; have hnb58 := NB127_112.out; have hnc58 := NB112_127.out; have hnb59 := NB127_117.out; have hnc59 := NB117_127.out; have hnb60 := NB127_122.out; have hnc60 := NB122_127.out; obtain ⟨hcz61_0, hcz61_1, hcz61_2, hcz61_3⟩ := hc4 BK127.out; obtain ⟨hfz61_0, hfz61_1, hfz61_2, hfz61_3⟩ := hf4 BK127.out; obtain ⟨hcz62_0, hcz62_1, hcz62_2⟩ := hc3 BK101.out; obtain ⟨hfz62_0, hfz62_1, hfz62_2⟩ := hf3 BK101.out) | ((with_reducible refine gate_callee (f := 37) rfl ?_); refine goesL_ (some 42) rfl rfl Tryd.func37 (by kernel_rfl) rfl #[.agg #[.int .i64 a0_0, .int .i64 a0_1, .int .i64 a0_2], .int .i64 a2] rfl (by (try simp only [List.map_toArray, List.map_cons, List.map_nil]); first | done | rfl | (simp only [List.length_drop, List.length_take]; rfl)) ?_; (with_reducible refine (drachmref02_Pow.calls k a0_0 a0_1 a0_2 a2 t128 t129 t130 t131 _ A9.out).mono ?_); rintro e w63 ⟨rfl, hb⟩; refine ⟨_, rfl, ?_⟩; replace BK101 := Aside0.mk (blk_below (kp BK101.out) hb); replace BK102 := Aside0.mk (blk_below (kp BK102.out) hb); replace BK107 := Aside0.mk (blk_below (kp BK107.out) hb); replace BK112 := Aside0.mk (blk_below (kp BK112.out) hb); replace BK117 := Aside0.mk (blk_below (kp BK117.out) hb); replace BK122 := Aside0.mk (blk_below (kp BK122.out) hb); replace BK127 := Aside0.mk (blk_below (kp (p4_3 (kp (p4_2 (kp (p4_1 (kp (p4_0 (kp BK127.out))))))))) hb); replace HB := Aside0.mk (below_step (bl HB.out) hb); (try clear hb); (try clear hb2); (try clear hk); (try clear hi)) | ((with_reducible refine gate_dst (N := 15) rfl ?_); refine box_event ?hg (N := 15) ?hd (cs := #[.int .i64 0, .int .i64 0, .int .i64 0, .int .i64 0]) (t := 30) ?hr ?_; (case hd => rfl); (case hg => rfl); (case hr => first | (go_simp; done) | (go_simp; rfl)); intro gb132 hg w64 hbox hb; have n0_ := Aside0.mk (blk_below (kp BK101.out) hb); have n1_ := Aside0.mk (blk_below (kp BK102.out) hb); have n2_ := Aside0.mk (blk_below (kp BK107.out) hb); have n3_ := Aside0.mk (blk_below (kp BK112.out) hb); have n4_ := Aside0.mk (blk_below (kp BK117.out) hb); have n5_ := Aside0.mk (blk_below (kp BK122.out) hb); have n6_ := Aside0.mk (blk_below (kp BK127.out) hb); have n7_ := Aside0.mk (below_step (bl HB.out) hb); have n8_ := Aside0.mk (hbox); have n9_ := Aside0.mk ((by rw [hg]; exact (below_size (bl HB.out)) : w.heap.size ≤ gb132)); have n10_ := Aside0.mk ((by rw [hg]; exact (below_size (bl HB.out)) : w.heap.size ≤ gb132)); have n11_ := Aside0.mk ((by rw [hg]; exact Nat.ne_of_lt (blk_lt (kp BK101.out)) : gb101 ≠ gb132)); have n12_ := Aside0.mk ((by rw [hg]; exact Nat.ne_of_gt (blk_lt (kp BK101.out)) : gb132 ≠ gb101)); have n13_ := Aside0.mk ((by rw [hg]; exact Nat.ne_of_lt (blk_lt (kp BK102.out)) : gb102 ≠ gb132)); have n14_ := Aside0.mk ((by rw [hg]; exact Nat.ne_of_gt (blk_lt (kp BK102.out)) : gb132 ≠ gb102)); have n15_ := Aside0.mk ((by rw [hg]; exact Nat.ne_of_lt (blk_lt (kp BK107.out)) : gb107 ≠ gb132)); have n16_ := Aside0.mk ((by rw [hg]; exact Nat.ne_of_gt (blk_lt (kp BK107.out)) : gb132 ≠ gb107)); have n17_ := Aside0.mk ((by rw [hg]; exact Nat.ne_of_lt (blk_lt (kp BK112.out)) : gb112 ≠ gb132)); have n18_ := Aside0.mk ((by rw [hg]; exact Nat.ne_of_gt (blk_lt (kp BK112.out)) : gb132 ≠ gb112)); have n19_ := Aside0.mk ((by rw [hg]; exact Nat.ne_of_lt (blk_lt (kp BK117.out)) : gb117 ≠ gb132)); have n20_ := Aside0.mk ((by rw [hg]; exact Nat.ne_of_gt (blk_lt (kp BK117.out)) : gb132 ≠ gb117)); have n21_ := Aside0.mk ((by rw [hg]; exact Nat.ne_of_lt (blk_lt (kp BK122.out)) : gb122 ≠ gb132)); have n22_ := Aside0.mk ((by rw [hg]; exact Nat.ne_of_gt (blk_lt (kp BK122.out)) : gb132 ≠ gb122)); have n23_ := Aside0.mk ((by rw [hg]; exact Nat.ne_of_lt (blk_lt (kp BK127.out)) : gb127 ≠ gb132)); have n24_ := Aside0.mk ((by rw [hg]; exact Nat.ne_of_gt (blk_lt (kp BK127.out)) : gb132 ≠ gb127)); clear BK101; clear BK102; clear BK107; clear BK112; clear BK117; clear BK122; clear BK127; clear HB; have BK101 := n0_; have BK102 := n1_; have BK107 := n2_; have BK112 := n3_; have BK117 := n4_; have BK122 := n5_; have BK127 := n6_; have HB := n7_; have BK132 := n8_; have GW132 := n9_; have GE132 := n10_; have NB101_132 := n11_; have NB132_101 := n12_; have NB102_132 := n13_; have NB132_102 := n14_; have NB107_132 := n15_; have NB132_107 := n16_; have NB112_132 := n17_; have NB132_112 := n18_; have NB117_132 := n19_; have NB132_117 := n20_; have NB122_132 := n21_; have NB132_122 := n22_; have NB127_132 := n23_; have NB132_127 := n24_; clear n0_ n1_ n2_ n3_ n4_ n5_ n6_ n7_ n8_ n9_ n10_ n11_ n12_ n13_ n14_ n15_ n16_ n17_ n18_ n19_ n20_ n21_ n22_ n23_ n24_; clear hb hbox hg; have hnb65 := NB132_101.out; have hnc65 := NB101_132.out; have hnb66 := NB132_102.out; have hnc66 := NB102_132.out; have hnb67 := NB132_107.out; have hnc67 := NB107_132.out; have hnb68 := NB132_112.out; have hnc68 := NB112_132.out; have hnb69 := NB132_117.out; have hnc69 := NB117_132.out; have hnb70 := NB132_122.out; have hnc70 := NB122_132.out; have hnb71 := NB132_127.out; have hnc71 := NB127_132.out; obtain ⟨hcz72_0, hcz72_1, hcz72_2, hcz72_3⟩ := hc4 BK132.out; obtain ⟨hfz72_0, hfz72_1, hfz72_2, hfz72_3⟩ := hf4 BK132.out; obtain ⟨hcz73_0, hcz73_1, hcz73_2⟩ := hc3 BK107.out; obtain ⟨hfz73_0, hfz73_1, hfz73_2⟩ := hf3 BK107.out; obtain ⟨hcz74_0, hcz74_1, hcz74_2, hcz74_3⟩ := hc4 BK122.out; obtain ⟨hfz74_0, hfz74_1, hfz74_2, hfz74_3⟩ := hf4 BK122.out; obtain ⟨hcz75_0, hcz75_1, hcz75_2⟩ := hc3 BK112.out; obtain ⟨hfz75_0, hfz75_1, hfz75_2⟩ := hf3 BK112.out; obtain ⟨hcz76_0, hcz76_1, hcz76_2, hcz76_3⟩ := hc4 BK127.out; obtain ⟨hfz76_0, hfz76_1, hfz76_2, hfz76_3⟩ := hf4 BK127.out; obtain ⟨hcz77_0, hcz77_1, hcz77_2⟩ := hc3 BK117.out; obtain ⟨hfz77_0, hfz77_1, hfz77_2⟩ := hf3 BK117.out))
      go_ret
      exact ⟨by first | rfl | (simp [errW_none, errW_some] <;> rfl) | (simp [*, errW_none, errW_some] <;> rfl), bl HB.out⟩
     ·rw [if_neg c14] at H
      exact absurd H (by simp)
    ·rw [if_neg c13] at H
     exact absurd H (by simp)
   ·rw [if_neg c12] at H
    exact absurd H (by simp)
  ·rw [if_neg c11] at H
   exact absurd H (by simp)
 ·rw [if_neg c10] at H
  exact absurd H (by simp)

/-! ### drachmlaw02_FracReckons: function 6 -/
def drachmlaw02_FracReckons.f (k : Nat) (a0_0 : Int) (a0_1 : Int) (a0_2 : Int) (a0_3 : Int) (a0_4 : Int) (a0_5 : Int) (a1_0 : Int) (a1_1 : Int) (a1_2 : Int) (a1_3 : Int) (a1_4 : Int) (a1_5 : Int) (a2 : Int) : Option (Bool) := (drachmlaw02_awake.f k).bind fun t135 => (if t135 = true then ((drachmlaw02_Spec_frac.f k a0_0 a0_1 a0_2).bind fun bt136 => ((drachmlaw02_Spec_frac.f k a0_3 a0_4 a0_5).bind fun bt139 => ((drachmlaw02_reckons.f k bt136.1 bt136.2.1 bt136.2.2 bt139.1 bt139.2.1 bt139.2.2 a2).bind fun t142 => (if t142 = true then ((drachmlaw02_reckons.f k a1_0 a1_1 a1_2 a1_3 a1_4 a1_5 (Int.tmod a2 12)).bind fun t143 => (if t143 = true then ((drachmlaw02_Spec_frac.f k a0_0 a0_1 a0_2).bind fun bt144 => ((drachmlaw02_reckons.f k bt144.1 bt144.2.1 bt144.2.2 a1_0 a1_1 a1_2 (Int.tmod a2 7)).bind fun t147 => (some t147))) else (none))) else (none))))) else (none))
theorem drachmlaw02_FracReckons.mono : ∀ a0 a1 a2 a3 a4 a5 a6 a7 a8 a9 a10 a11 a12 k, LeO (drachmlaw02_FracReckons.f k a0 a1 a2 a3 a4 a5 a6 a7 a8 a9 a10 a11 a12) (drachmlaw02_FracReckons.f (k + 1) a0 a1 a2 a3 a4 a5 a6 a7 a8 a9 a10 a11 a12) := by
 intro a0 a1 a2 a3 a4 a5 a6 a7 a8 a9 a10 a11 a12 k
 unfold drachmlaw02_FracReckons.f
 repeat' first
   | (with_reducible exact drachmlaw02_Spec_frac.mono _ _ _ _)
   | (with_reducible exact drachmlaw02_awake.mono _)
   | (with_reducible exact drachmlaw02_reckons.mono _ _ _ _ _ _ _ _)
   | (with_reducible exact LeO.refl _)
   | (with_reducible exact LeO.none _)
   | (with_reducible refine LeO.ite ?_ ?_)
   | (with_reducible refine LeO.bind ?_ (fun _ => ?_))
   | exact drachmlaw02_Spec_frac.mono _ _ _ _
   | exact drachmlaw02_awake.mono _
   | exact drachmlaw02_reckons.mono _ _ _ _ _ _ _ _
   | exact LeO.none _
   | refine LeO.ite ?_ ?_
   | refine LeO.bind ?_ (fun _ => ?_)
def drachmlaw02_FracReckons.T2 : Bool × List (List Nat × List Nat) := (true, [([], []), ([0], [0]), ([1], [1]), ([2, 1], [1, 2]), ([3, 1, 1], [1, 3]), ([1], [1]), ([5, 1], [1, 5]), ([6, 4, 1], [1, 6]), ([1], [1]), ([4, 7, 8, 7, 1], [1, 4, 7, 8]), ([1, 9], [1, 9]), ([10, 9], [10]), ([11], [11]), ([12, 11], [11, 12]), ([11], [11]), ([14, 11], [11, 14]), ([11], [11]), ([16, 11], [11, 16]), ([13, 15, 17, 11, 11], [11, 13, 15, 17]), ([11, 18], [11, 18]), ([19, 18], [19]), ([20], [20]), ([21, 20], [20, 21]), ([22, 20, 20], [20, 22]), ([20], [20]), ([24, 20], [20, 24]), ([20], [20]), ([26, 20], [20, 26]), ([23, 25, 27, 23, 20], [20, 23, 25, 27]), ([20, 28], [20, 28]), ([29, 28, 0, 1, 2, 3, 4, 5, 6, 7, 8, 9, 10, 11, 12, 13, 14, 15, 16, 17, 18, 19, 20, 21, 22, 23, 24, 25, 26, 27, 28, 29], [29])])
def drachmlaw02_FracReckons.B2 : List Nat := [0, 1, 3, 7, 15, 3, 35, 127, 3, 511, 1023, 2047, 4095, 8191, 4095, 20479, 4095, 69631, 262143, 524287, 1048575, 2097151, 4194303, 8388607, 2097151, 18874367, 2097151, 69206015, 268435455, 536870911, 1073741823]
theorem drachmlaw02_FracReckons.tab2 : rtab .any (opsOf Tryd.f6 2) = drachmlaw02_FracReckons.T2 := by kernel_rfl
theorem drachmlaw02_FracReckons.bits2 : waitsOk drachmlaw02_FracReckons.T2.2 drachmlaw02_FracReckons.B2 = true := by kernel_rfl
set_option maxHeartbeats 8000000 in
set_option maxRecDepth 100000 in
theorem drachmlaw02_FracReckons.calls (k : Nat) (a0_0 : Int) (a0_1 : Int) (a0_2 : Int) (a0_3 : Int) (a0_4 : Int) (a0_5 : Int) (a1_0 : Int) (a1_1 : Int) (a1_2 : Int) (a1_3 : Int) (a1_4 : Int) (a1_5 : Int) (a2 : Int) (r : Bool) (w : World) (hG : Glob [0, 1] w) (h : drachmlaw02_FracReckons.f k a0_0 a0_1 a0_2 a0_3 a0_4 a0_5 a1_0 a1_1 a1_2 a1_3 a1_4 a1_5 a2 = some r) :
  Calls Tryd.prog 6 #[.agg #[.int .i64 a0_0, .int .i64 a0_1, .int .i64 a0_2, .int .i64 a0_3, .int .i64 a0_4, .int .i64 a0_5], .agg #[.int .i64 a1_0, .int .i64 a1_1, .int .i64 a1_2, .int .i64 a1_3, .int .i64 a1_4, .int .i64 a1_5], .int .i64 a2] w fun e w' => e = .returned (.bool r) ∧ Below w.heap.size w w' := by
 have hu37 := Tryd.underlying37
 have hu41 := Tryd.underlying41
 have hu23 := Tryd.underlying23
 have hu24 := Tryd.underlying24
 have HB := Aside0.mk (Below.refl w.heap.size w)
 have H : ((drachmlaw02_awake.f k).bind fun t135 => (if t135 = true then ((drachmlaw02_Spec_frac.f k a0_0 a0_1 a0_2).bind fun bt136 => ((drachmlaw02_Spec_frac.f k a0_3 a0_4 a0_5).bind fun bt139 => ((drachmlaw02_reckons.f k bt136.1 bt136.2.1 bt136.2.2 bt139.1 bt139.2.1 bt139.2.2 a2).bind fun t142 => (if t142 = true then ((drachmlaw02_reckons.f k a1_0 a1_1 a1_2 a1_3 a1_4 a1_5 (Int.tmod a2 12)).bind fun t143 => (if t143 = true then ((drachmlaw02_Spec_frac.f k a0_0 a0_1 a0_2).bind fun bt144 => ((drachmlaw02_reckons.f k bt144.1 bt144.2.1 bt144.2.2 a1_0 a1_1 a1_2 (Int.tmod a2 7)).bind fun t147 => (some t147))) else (none))) else (none))))) else (none))) = some r := h
 clear h
 replace H := Option.bind_eq_some_iff.mp H
 obtain ⟨t135, A40, H⟩ := H
 replace H : (if t135 = true then ((drachmlaw02_Spec_frac.f k a0_0 a0_1 a0_2).bind fun bt136 => ((drachmlaw02_Spec_frac.f k a0_3 a0_4 a0_5).bind fun bt139 => ((drachmlaw02_reckons.f k bt136.1 bt136.2.1 bt136.2.2 bt139.1 bt139.2.1 bt139.2.2 a2).bind fun t142 => (if t142 = true then ((drachmlaw02_reckons.f k a1_0 a1_1 a1_2 a1_3 a1_4 a1_5 (Int.tmod a2 12)).bind fun t143 => (if t143 = true then ((drachmlaw02_Spec_frac.f k a0_0 a0_1 a0_2).bind fun bt144 => ((drachmlaw02_reckons.f k bt144.1 bt144.2.1 bt144.2.2 a1_0 a1_1 a1_2 (Int.tmod a2 7)).bind fun t147 => (some t147))) else (none))) else (none))))) else (none)) = some r := H
 have A4 := Aside0.mk A40
 clear A40
 by_cases c5 : t135 = true
 ·subst c5
  have H1 : ((drachmlaw02_Spec_frac.f k a0_0 a0_1 a0_2).bind fun bt136 => ((drachmlaw02_Spec_frac.f k a0_3 a0_4 a0_5).bind fun bt139 => ((drachmlaw02_reckons.f k bt136.1 bt136.2.1 bt136.2.2 bt139.1 bt139.2.1 bt139.2.2 a2).bind fun t142 => (if t142 = true then ((drachmlaw02_reckons.f k a1_0 a1_1 a1_2 a1_3 a1_4 a1_5 (Int.tmod a2 12)).bind fun t143 => (if t143 = true then ((drachmlaw02_Spec_frac.f k a0_0 a0_1 a0_2).bind fun bt144 => ((drachmlaw02_reckons.f k bt144.1 bt144.2.1 bt144.2.2 a1_0 a1_1 a1_2 (Int.tmod a2 7)).bind fun t147 => (some t147))) else (none))) else (none))))) = some r := by rw [if_pos rfl] at H; exact H
  clear H
  have H := H1
  clear H1
  replace H := Option.bind_eq_some_iff.mp H
  obtain ⟨⟨t136, t137, t138⟩, A60, H⟩ := H
  replace H : ((drachmlaw02_Spec_frac.f k a0_3 a0_4 a0_5).bind fun bt139 => ((drachmlaw02_reckons.f k t136 t137 t138 bt139.1 bt139.2.1 bt139.2.2 a2).bind fun t142 => (if t142 = true then ((drachmlaw02_reckons.f k a1_0 a1_1 a1_2 a1_3 a1_4 a1_5 (Int.tmod a2 12)).bind fun t143 => (if t143 = true then ((drachmlaw02_Spec_frac.f k a0_0 a0_1 a0_2).bind fun bt144 => ((drachmlaw02_reckons.f k bt144.1 bt144.2.1 bt144.2.2 a1_0 a1_1 a1_2 (Int.tmod a2 7)).bind fun t147 => (some t147))) else (none))) else (none)))) = some r := H
  have A6 := Aside0.mk A60
  clear A60
  replace H := Option.bind_eq_some_iff.mp H
  obtain ⟨⟨t139, t140, t141⟩, A70, H⟩ := H
  replace H : ((drachmlaw02_reckons.f k t136 t137 t138 t139 t140 t141 a2).bind fun t142 => (if t142 = true then ((drachmlaw02_reckons.f k a1_0 a1_1 a1_2 a1_3 a1_4 a1_5 (Int.tmod a2 12)).bind fun t143 => (if t143 = true then ((drachmlaw02_Spec_frac.f k a0_0 a0_1 a0_2).bind fun bt144 => ((drachmlaw02_reckons.f k bt144.1 bt144.2.1 bt144.2.2 a1_0 a1_1 a1_2 (Int.tmod a2 7)).bind fun t147 => (some t147))) else (none))) else (none))) = some r := H
  have A7 := Aside0.mk A70
  clear A70
  replace H := Option.bind_eq_some_iff.mp H
  obtain ⟨t142, A80, H⟩ := H
  replace H : (if t142 = true then ((drachmlaw02_reckons.f k a1_0 a1_1 a1_2 a1_3 a1_4 a1_5 (Int.tmod a2 12)).bind fun t143 => (if t143 = true then ((drachmlaw02_Spec_frac.f k a0_0 a0_1 a0_2).bind fun bt144 => ((drachmlaw02_reckons.f k bt144.1 bt144.2.1 bt144.2.2 a1_0 a1_1 a1_2 (Int.tmod a2 7)).bind fun t147 => (some t147))) else (none))) else (none)) = some r := H
  have A8 := Aside0.mk A80
  clear A80
  by_cases c9 : t142 = true
  ·subst c9
   have H1 : ((drachmlaw02_reckons.f k a1_0 a1_1 a1_2 a1_3 a1_4 a1_5 (Int.tmod a2 12)).bind fun t143 => (if t143 = true then ((drachmlaw02_Spec_frac.f k a0_0 a0_1 a0_2).bind fun bt144 => ((drachmlaw02_reckons.f k bt144.1 bt144.2.1 bt144.2.2 a1_0 a1_1 a1_2 (Int.tmod a2 7)).bind fun t147 => (some t147))) else (none))) = some r := by rw [if_pos rfl] at H; exact H
   clear H
   have H := H1
   clear H1
   replace H := Option.bind_eq_some_iff.mp H
   obtain ⟨t143, A100, H⟩ := H
   replace H : (if t143 = true then ((drachmlaw02_Spec_frac.f k a0_0 a0_1 a0_2).bind fun bt144 => ((drachmlaw02_reckons.f k bt144.1 bt144.2.1 bt144.2.2 a1_0 a1_1 a1_2 (Int.tmod a2 7)).bind fun t147 => (some t147))) else (none)) = some r := H
   have A10 := Aside0.mk A100
   clear A100
   by_cases c11 : t143 = true
   ·subst c11
    have H1 : ((drachmlaw02_Spec_frac.f k a0_0 a0_1 a0_2).bind fun bt144 => ((drachmlaw02_reckons.f k bt144.1 bt144.2.1 bt144.2.2 a1_0 a1_1 a1_2 (Int.tmod a2 7)).bind fun t147 => (some t147))) = some r := by rw [if_pos rfl] at H; exact H
    clear H
    have H := H1
    clear H1
    replace H := Option.bind_eq_some_iff.mp H
    obtain ⟨⟨t144, t145, t146⟩, A120, H⟩ := H
    replace H : ((drachmlaw02_reckons.f k t144 t145 t146 a1_0 a1_1 a1_2 (Int.tmod a2 7)).bind fun t147 => (some t147)) = some r := H
    have A12 := Aside0.mk A120
    clear A120
    replace H := Option.bind_eq_some_iff.mp H
    obtain ⟨t147, A130, H⟩ := H
    replace H : (some t147) = some r := H
    have A13 := Aside0.mk A130
    clear A130
    obtain rfl := Option.some.inj H
    go_enter Tryd.func6, Tryd.ntmps6
    try go_wp2_with (first | ((with_reducible refine gate_dst (N := 3) rfl ?_); refine box_event ?hg (N := 3) ?hd (cs := #[.int .i64 a0_0, .int .i64 a0_1, .int .i64 a0_2, .int .i64 a0_3, .int .i64 a0_4, .int .i64 a0_5]) (t := 37) ?hr ?_; (case hd => rfl); (case hg => rfl); (case hr => first | (go_simp; done) | (go_simp; rfl)); intro gb133 hg w14 hbox hb; have n0_ := Aside0.mk (below_step (bl HB.out) hb); have n1_ := Aside0.mk (hbox); have n2_ := Aside0.mk ((by rw [hg]; exact (below_size (bl HB.out)) : w.heap.size ≤ gb133)); have n3_ := Aside0.mk ((by rw [hg]; exact (below_size (bl HB.out)) : w.heap.size ≤ gb133)); clear HB; have HB := n0_; have BK133 := n1_; have GW133 := n2_; have GE133 := n3_; clear n0_ n1_ n2_ n3_; clear hb hbox hg) | ((with_reducible refine gate_dst (N := 4) rfl ?_); refine box_event ?hg (N := 4) ?hd (cs := #[.int .i64 a1_0, .int .i64 a1_1, .int .i64 a1_2, .int .i64 a1_3, .int .i64 a1_4, .int .i64 a1_5]) (t := 41) ?hr ?_; (case hd => rfl); (case hg => rfl); (case hr => first | (go_simp; done) | (go_simp; rfl)); intro gb134 hg w15 hbox hb; have n0_ := Aside0.mk (blk_below (kp BK133.out) hb); have n1_ := Aside0.mk (below_step (bl HB.out) hb); have n2_ := Aside0.mk (hbox); have n3_ := Aside0.mk ((by rw [hg]; exact (below_size (bl HB.out)) : w.heap.size ≤ gb134)); have n4_ := Aside0.mk ((by rw [hg]; exact (below_size (bl HB.out)) : w.heap.size ≤ gb134)); have n5_ := Aside0.mk ((by rw [hg]; exact Nat.ne_of_lt (blk_lt (kp BK133.out)) : gb133 ≠ gb134)); have n6_ := Aside0.mk ((by rw [hg]; exact Nat.ne_of_gt (blk_lt (kp BK133.out)) : gb134 ≠ gb133)); clear BK133; clear HB; have BK133 := n0_; have HB := n1_; have BK134 := n2_; have GW134 := n3_; have GE134 := n4_; have NB133_134 := n5_; have NB134_133 := n6_; clear n0_ n1_ n2_ n3_ n4_ n5_ n6_; clear hb hbox hg) | ((with_reducible refine gate_callee (f := 10) rfl ?_); refine goesL_ (some 8) rfl rfl Tryd.func10 (by kernel_rfl) rfl #[] rfl (by (try simp only [List.map_toArray, List.map_cons, List.map_nil]); first | done | rfl | (simp only [List.length_drop, List.length_take]; rfl)) ?_; (with_reducible refine (drachmlaw02_awake.calls k  true _ (Glob.use hG (by decide) (bl HB.out)) A4.out).mono ?_); rintro e w16 ⟨rfl, hb⟩; refine ⟨_, rfl, ?_⟩; replace BK133 := Aside0.mk (blk_below (kp BK133.out) hb); replace BK134 := Aside0.mk (blk_below (kp BK134.out) hb); replace HB := Aside0.mk (below_step (bl HB.out) hb); (try clear hb); (try clear hb2); (try clear hk); (try clear hi)))
    (try (rw [drewN_self w16]; generalize hq_ : World.drewN w16 _ = w16; replace BK133 := Aside0.mk (kq hq_ BK133.out); replace BK134 := Aside0.mk (kq hq_ BK134.out); replace HB := Aside0.mk (bq hq_ HB.out); clear hq_))
    replace BK133 := Aside0.mk (blk_drew BK133.out)
    replace BK134 := Aside0.mk (blk_drew BK134.out)
    replace HB := Aside0.mk (below_drew1 HB.out)
    refine start_ (n := 31) (S := fun w' => w'.cell? ⟨gb133, 0, none⟩ = some (.int .i64 a0_0) ∧ w'.cell? ⟨gb133, 1, none⟩ = some (.int .i64 a0_1) ∧ w'.cell? ⟨gb133, 2, none⟩ = some (.int .i64 a0_2) ∧ w'.cell? ⟨gb133, 3, none⟩ = some (.int .i64 a0_3) ∧ w'.cell? ⟨gb133, 4, none⟩ = some (.int .i64 a0_4) ∧ w'.cell? ⟨gb133, 5, none⟩ = some (.int .i64 a0_5) ∧ w'.cell? ⟨gb134, 0, none⟩ = some (.int .i64 a1_0) ∧ w'.cell? ⟨gb134, 1, none⟩ = some (.int .i64 a1_1) ∧ w'.cell? ⟨gb134, 2, none⟩ = some (.int .i64 a1_2) ∧ w'.cell? ⟨gb134, 3, none⟩ = some (.int .i64 a1_3) ∧ w'.cell? ⟨gb134, 4, none⟩ = some (.int .i64 a1_4) ∧ w'.cell? ⟨gb134, 5, none⟩ = some (.int .i64 a1_5)) (ds := []) #[false, false, false, false, false, false, false, false, false, false, false, false, false, false, false, false, false, false, false, false, false, false, false, false, false, false, false, false, false, false, false] (by kernel_rfl) rfl rfl ⟨(blk_cell BK133.out 0).trans rfl, (blk_cell BK133.out 1).trans rfl, (blk_cell BK133.out 2).trans rfl, (blk_cell BK133.out 3).trans rfl, (blk_cell BK133.out 4).trans rfl, (blk_cell BK133.out 5).trans rfl, (blk_cell BK134.out 0).trans rfl, (blk_cell BK134.out 1).trans rfl, (blk_cell BK134.out 2).trans rfl, (blk_cell BK134.out 3).trans rfl, (blk_cell BK134.out 4).trans rfl, (blk_cell BK134.out 5).trans rfl⟩ (fun hHeld => ?_); refine with_tabW drachmlaw02_FracReckons.tab2 drachmlaw02_FracReckons.bits2 (fun HT_ HW_ => ?_)
    generalize w16.drew = w17 at BK133 BK134 HB hHeld ⊢
    refine pure_ (i := 0) (N := some 9) (v := ?_) (a' := ?_) #[true, false, false, false, false, false, false, false, false, false, false, false, false, false, false, false, false, false, false, false, false, false, false, false, false, false, false, false, false, false, false] rfl rfl (any_of HT_.out (by kernel_rfl)) (fun _ _ _ h => h) (Or.inl ⟨by rfl, ?_⟩) ?_ ?_
    rotate_left
    ·intro w'
     go_simp
     with_reducible rfl
    rotate_left
    ·simp only [Act.put, List.setIfInBounds_toArray, List.set_cons_zero, List.set_cons_succ, i64_w, i32_w]
     rfl
    refine pure_ (i := 1) (N := some 10) (v := ?_) (a' := ?_) #[true, true, false, false, false, false, false, false, false, false, false, false, false, false, false, false, false, false, false, false, false, false, false, false, false, false, false, false, false, false, false] rfl rfl (any_of HT_.out (by kernel_rfl)) (fun _ _ _ h => h) (Or.inl ⟨by rfl, ?_⟩) ?_ ?_
    rotate_left
    ·intro w'
     go_simp
     with_reducible rfl
    rotate_left
    ·simp only [Act.put, List.setIfInBounds_toArray, List.set_cons_zero, List.set_cons_succ, i64_w, i32_w]
     rfl
    refine pure_ (i := 2) (N := some 11) (v := ?_) (a' := ?_) #[true, true, true, false, false, false, false, false, false, false, false, false, false, false, false, false, false, false, false, false, false, false, false, false, false, false, false, false, false, false, false] rfl rfl (any_of HT_.out (by kernel_rfl)) (fun _ _ _ h => h) (Or.inl ⟨by rfl, ?_⟩) ?_ ?_
    rotate_left
    ·intro w'
     go_simp
     with_reducible rfl
    rotate_left
    ·simp only [Act.put, List.setIfInBounds_toArray, List.set_cons_zero, List.set_cons_succ, i64_w, i32_w]
     rfl
    refine pure_ (i := 5) (N := some 14) (v := ?_) (a' := ?_) #[true, true, true, false, false, true, false, false, false, false, false, false, false, false, false, false, false, false, false, false, false, false, false, false, false, false, false, false, false, false, false] rfl rfl (any_of HT_.out (by kernel_rfl)) (fun _ _ _ h => h) (Or.inl ⟨by rfl, ?_⟩) ?_ ?_
    rotate_left
    ·intro w'
     go_simp
     with_reducible rfl
    rotate_left
    ·simp only [Act.put, List.setIfInBounds_toArray, List.set_cons_zero, List.set_cons_succ, i64_w, i32_w]
     rfl
    refine pure_ (i := 8) (N := some 17) (v := ?_) (a' := ?_) #[true, true, true, false, false, true, false, false, true, false, false, false, false, false, false, false, false, false, false, false, false, false, false, false, false, false, false, false, false, false, false] rfl rfl (any_of HT_.out (by kernel_rfl)) (fun _ _ _ h => h) (Or.inl ⟨by rfl, ?_⟩) ?_ ?_
    rotate_left
    ·intro w'
     go_simp
     with_reducible rfl
    rotate_left
    ·simp only [Act.put, List.setIfInBounds_toArray, List.set_cons_zero, List.set_cons_succ, i64_w, i32_w]
     rfl
    refine take_ (i := 3) (N := some 12) (v := ?_) (a' := ?_) #[true, true, true, true, false, true, false, false, true, false, false, false, false, false, false, false, false, false, false, false, false, false, false, false, false, false, false, false, false, false, false] rfl rfl (take_ofW HT_.out HW_.out (by kernel_rfl)) (fun _ _ _ h => h) (Or.inl ⟨by rfl, ?_⟩) hHeld ?_ ?_
    rotate_left
    ·rintro w' ⟨s0, s1, s2, s3, s4, s5, s6, s7, s8, s9, s10, s11⟩
     go_simp
     with_reducible rfl
    rotate_left
    ·simp only [Act.put, List.setIfInBounds_toArray, List.set_cons_zero, List.set_cons_succ, i64_w, i32_w]
     rfl
    refine take_ (i := 6) (N := some 15) (v := ?_) (a' := ?_) #[true, true, true, true, false, true, true, false, true, false, false, false, false, false, false, false, false, false, false, false, false, false, false, false, false, false, false, false, false, false, false] rfl rfl (take_ofW HT_.out HW_.out (by kernel_rfl)) (fun _ _ _ h => h) (Or.inl ⟨by rfl, ?_⟩) hHeld ?_ ?_
    rotate_left
    ·rintro w' ⟨s0, s1, s2, s3, s4, s5, s6, s7, s8, s9, s10, s11⟩
     go_simp
     with_reducible rfl
    rotate_left
    ·simp only [Act.put, List.setIfInBounds_toArray, List.set_cons_zero, List.set_cons_succ, i64_w, i32_w]
     rfl
    refine one_ (i := 4) (N := some 13) #[true, true, true, true, true, true, true, false, true, false, false, false, false, false, false, false, false, false, false, false, false, false, false, false, false, false, false, false, false, false, false] rfl rfl (one_of HT_.out (by kernel_rfl)) (by decide) (fun K hK => ?_)
    refine goes_ Tryd.func15 (by kernel_rfl) rfl #[.agg #[.int .i64 a0_0, .int .i64 a0_1, .int .i64 a0_2]] (by rfl) rfl rfl (by (try simp only [List.map_toArray, List.map_cons, List.map_nil]); first | done | rfl | (simp only [List.length_drop, List.length_take]; rfl)) ?_
    with_reducible refine (drachmlaw02_Spec_frac.calls k a0_0 a0_1 a0_2 t136 t137 t138 _ A6.out).mono ?_
    rintro e w18 ⟨rfl, hb⟩
    refine ⟨_, rfl, ?_⟩
    replace BK133 := Aside0.mk (blk_below (kp BK133.out) hb)
    replace BK134 := Aside0.mk (blk_below (kp BK134.out) hb)
    replace HB := Aside0.mk (below_step (bl HB.out) hb)
    (try clear hb)
    (try clear hb2)
    (try clear hk)
    (try clear hi)
    refine hK.out _ _ ⟨(blk_cell BK133.out 0).trans rfl, (blk_cell BK133.out 1).trans rfl, (blk_cell BK133.out 2).trans rfl, (blk_cell BK133.out 3).trans rfl, (blk_cell BK133.out 4).trans rfl, (blk_cell BK133.out 5).trans rfl, (blk_cell BK134.out 0).trans rfl, (blk_cell BK134.out 1).trans rfl, (blk_cell BK134.out 2).trans rfl, (blk_cell BK134.out 3).trans rfl, (blk_cell BK134.out 4).trans rfl, (blk_cell BK134.out 5).trans rfl⟩ (fun hHeld => ?_)
    clear hK K
    refine norm_ (a' := ?_) ?_ ?_
    rotate_left
    ·show Act.put _ (some 13) _ = _
     simp only [Act.put, List.setIfInBounds_toArray, List.set_cons_zero, List.set_cons_succ, i64_w, i32_w]
     rfl
    refine one_ (i := 7) (N := some 16) #[true, true, true, true, true, true, true, true, true, false, false, false, false, false, false, false, false, false, false, false, false, false, false, false, false, false, false, false, false, false, false] rfl rfl (one_of HT_.out (by kernel_rfl)) (by decide) (fun K hK => ?_)
    refine goes_ Tryd.func15 (by kernel_rfl) rfl #[.agg #[.int .i64 a0_3, .int .i64 a0_4, .int .i64 a0_5]] (by rfl) rfl rfl (by (try simp only [List.map_toArray, List.map_cons, List.map_nil]); first | done | rfl | (simp only [List.length_drop, List.length_take]; rfl)) ?_
    with_reducible refine (drachmlaw02_Spec_frac.calls k a0_3 a0_4 a0_5 t139 t140 t141 _ A7.out).mono ?_
    rintro e w19 ⟨rfl, hb⟩
    refine ⟨_, rfl, ?_⟩
    replace BK133 := Aside0.mk (blk_below (kp BK133.out) hb)
    replace BK134 := Aside0.mk (blk_below (kp BK134.out) hb)
    replace HB := Aside0.mk (below_step (bl HB.out) hb)
    (try clear hb)
    (try clear hb2)
    (try clear hk)
    (try clear hi)
    refine hK.out _ _ ⟨(blk_cell BK133.out 0).trans rfl, (blk_cell BK133.out 1).trans rfl, (blk_cell BK133.out 2).trans rfl, (blk_cell BK133.out 3).trans rfl, (blk_cell BK133.out 4).trans rfl, (blk_cell BK133.out 5).trans rfl, (blk_cell BK134.out 0).trans rfl, (blk_cell BK134.out 1).trans rfl, (blk_cell BK134.out 2).trans rfl, (blk_cell BK134.out 3).trans rfl, (blk_cell BK134.out 4).trans rfl, (blk_cell BK134.out 5).trans rfl⟩ (fun hHeld => ?_)
    clear hK K
    refine norm_ (a' := ?_) ?_ ?_
    rotate_left
    ·show Act.put _ (some 16) _ = _
     simp only [Act.put, List.setIfInBounds_toArray, List.set_cons_zero, List.set_cons_succ, i64_w, i32_w]
     rfl
    refine one_ (i := 9) (N := some 18) #[true, true, true, true, true, true, true, true, true, true, false, false, false, false, false, false, false, false, false, false, false, false, false, false, false, false, false, false, false, false, false] rfl rfl (one_of HT_.out (by kernel_rfl)) (by decide) (fun K hK => ?_)
    refine goes_ Tryd.func18 (by kernel_rfl) rfl #[.agg #[.int .i64 t136, .int .i64 t137, .int .i64 t138], .agg #[.int .i64 t139, .int .i64 t140, .int .i64 t141], .int .i64 a2] (by rfl) rfl rfl (by (try simp only [List.map_toArray, List.map_cons, List.map_nil]); first | done | rfl | (simp only [List.length_drop, List.length_take]; rfl)) ?_
    with_reducible refine (drachmlaw02_reckons.calls k t136 t137 t138 t139 t140 t141 a2 true _ (Glob.use hG (by decide) (by repeat (first | (with_reducible first | exact HB.out | exact Below.refl _ _ | apply below_alloc | apply pw_below_drewN | apply below_drew1) | exact HB.out | exact Below.refl _ _))) A8.out).mono ?_
    rintro e w20 ⟨rfl, hb⟩
    refine ⟨_, rfl, ?_⟩
    replace BK133 := Aside0.mk (blk_below (kp BK133.out) hb)
    replace BK134 := Aside0.mk (blk_below (kp BK134.out) hb)
    replace HB := Aside0.mk (below_step (bl HB.out) hb)
    (try clear hb)
    (try clear hb2)
    (try clear hk)
    (try clear hi)
    refine hK.out _ _ ⟨(blk_cell BK133.out 0).trans rfl, (blk_cell BK133.out 1).trans rfl, (blk_cell BK133.out 2).trans rfl, (blk_cell BK133.out 3).trans rfl, (blk_cell BK133.out 4).trans rfl, (blk_cell BK133.out 5).trans rfl, (blk_cell BK134.out 0).trans rfl, (blk_cell BK134.out 1).trans rfl, (blk_cell BK134.out 2).trans rfl, (blk_cell BK134.out 3).trans rfl, (blk_cell BK134.out 4).trans rfl, (blk_cell BK134.out 5).trans rfl⟩ (fun hHeld => ?_)
    clear hK K
    refine norm_ (a' := ?_) ?_ ?_
    rotate_left
    ·show Act.put _ (some 18) _ = _
     simp only [Act.put, List.setIfInBounds_toArray, List.set_cons_zero, List.set_cons_succ, i64_w, i32_w]
     rfl
    refine pure_ (i := 10) (N := some 19) (v := ?_) (a' := ?_) #[true, true, true, true, true, true, true, true, true, true, true, false, false, false, false, false, false, false, false, false, false, false, false, false, false, false, false, false, false, false, false] rfl rfl (any_of HT_.out (by kernel_rfl)) (fun _ _ _ h => h) (Or.inl ⟨by rfl, ?_⟩) ?_ ?_
    rotate_left
    ·intro w'
     go_simp
     with_reducible rfl
    rotate_left
    ·simp only [Act.put, List.setIfInBounds_toArray, List.set_cons_zero, List.set_cons_succ, i64_w, i32_w]
     rfl
    refine pure_ (i := 11) (N := some 20) (v := ?_) (a' := ?_) #[true, true, true, true, true, true, true, true, true, true, true, true, false, false, false, false, false, false, false, false, false, false, false, false, false, false, false, false, false, false, false] rfl rfl (any_of HT_.out (by kernel_rfl)) (fun _ _ _ h => h) (Or.inl ⟨by rfl, ?_⟩) ?_ ?_
    rotate_left
    ·intro w'
     go_simp
     with_reducible rfl
    rotate_left
    ·simp only [Act.put, List.setIfInBounds_toArray, List.set_cons_zero, List.set_cons_succ, i64_w, i32_w]
     rfl
    refine pure_ (i := 12) (N := some 21) (v := ?_) (a' := ?_) #[true, true, true, true, true, true, true, true, true, true, true, true, true, false, false, false, false, false, false, false, false, false, false, false, false, false, false, false, false, false, false] rfl rfl (any_of HT_.out (by kernel_rfl)) (fun _ _ _ h => h) (Or.inl ⟨by rfl, ?_⟩) ?_ ?_
    rotate_left
    ·intro w'
     go_simp
     with_reducible rfl
    rotate_left
    ·simp only [Act.put, List.setIfInBounds_toArray, List.set_cons_zero, List.set_cons_succ, i64_w, i32_w]
     rfl
    refine pure_ (i := 14) (N := some 23) (v := ?_) (a' := ?_) #[true, true, true, true, true, true, true, true, true, true, true, true, true, false, true, false, false, false, false, false, false, false, false, false, false, false, false, false, false, false, false] rfl rfl (any_of HT_.out (by kernel_rfl)) (fun _ _ _ h => h) (Or.inl ⟨by rfl, ?_⟩) ?_ ?_
    rotate_left
    ·intro w'
     go_simp
     with_reducible rfl
    rotate_left
    ·simp only [Act.put, List.setIfInBounds_toArray, List.set_cons_zero, List.set_cons_succ, i64_w, i32_w]
     rfl
    refine pure_ (i := 16) (N := some 25) (v := ?_) (a' := ?_) #[true, true, true, true, true, true, true, true, true, true, true, true, true, false, true, false, true, false, false, false, false, false, false, false, false, false, false, false, false, false, false] rfl rfl (any_of HT_.out (by kernel_rfl)) (fun _ _ _ h => h) (Or.inl ⟨by rfl, ?_⟩) ?_ ?_
    rotate_left
    ·intro w'
     go_simp
     with_reducible rfl
    rotate_left
    ·simp only [Act.put, List.setIfInBounds_toArray, List.set_cons_zero, List.set_cons_succ, i64_w, i32_w]
     rfl
    refine pure_ (i := 17) (N := some 26) (v := ?_) (a' := ?_) #[true, true, true, true, true, true, true, true, true, true, true, true, true, false, true, false, true, true, false, false, false, false, false, false, false, false, false, false, false, false, false] rfl rfl (any_of HT_.out (by kernel_rfl)) (fun _ _ _ h => h) (Or.inl ⟨by rfl, ?_⟩) ?_ ?_
    rotate_left
    ·intro w'
     go_simp
     with_reducible rfl
    rotate_left
    ·simp only [Act.put, List.setIfInBounds_toArray, List.set_cons_zero, List.set_cons_succ, i64_w, i32_w]
     rfl
    refine take_ (i := 13) (N := some 22) (v := ?_) (a' := ?_) #[true, true, true, true, true, true, true, true, true, true, true, true, true, true, true, false, true, true, false, false, false, false, false, false, false, false, false, false, false, false, false] rfl rfl (take_ofW HT_.out HW_.out (by kernel_rfl)) (fun _ _ _ h => h) (Or.inl ⟨by rfl, ?_⟩) hHeld ?_ ?_
    rotate_left
    ·rintro w' ⟨s0, s1, s2, s3, s4, s5, s6, s7, s8, s9, s10, s11⟩
     go_simp
     with_reducible rfl
    rotate_left
    ·simp only [Act.put, List.setIfInBounds_toArray, List.set_cons_zero, List.set_cons_succ, i64_w, i32_w]
     rfl
    refine take_ (i := 15) (N := some 24) (v := ?_) (a' := ?_) #[true, true, true, true, true, true, true, true, true, true, true, true, true, true, true, true, true, true, false, false, false, false, false, false, false, false, false, false, false, false, false] rfl rfl (take_ofW HT_.out HW_.out (by kernel_rfl)) (fun _ _ _ h => h) (Or.inl ⟨by rfl, ?_⟩) hHeld ?_ ?_
    rotate_left
    ·rintro w' ⟨s0, s1, s2, s3, s4, s5, s6, s7, s8, s9, s10, s11⟩
     go_simp
     with_reducible rfl
    rotate_left
    ·simp only [Act.put, List.setIfInBounds_toArray, List.set_cons_zero, List.set_cons_succ, i64_w, i32_w]
     rfl
    refine one_ (i := 18) (N := some 27) #[true, true, true, true, true, true, true, true, true, true, true, true, true, true, true, true, true, true, true, false, false, false, false, false, false, false, false, false, false, false, false] rfl rfl (one_of HT_.out (by kernel_rfl)) (by decide) (fun K hK => ?_)
    refine goes_ Tryd.func18 (by kernel_rfl) rfl #[.agg #[.int .i64 a1_0, .int .i64 a1_1, .int .i64 a1_2], .agg #[.int .i64 a1_3, .int .i64 a1_4, .int .i64 a1_5], .int .i64 (Int.tmod a2 12)] (by rfl) rfl rfl (by (try simp only [List.map_toArray, List.map_cons, List.map_nil]); first | done | rfl | (simp only [List.length_drop, List.length_take]; rfl)) ?_
    with_reducible refine (drachmlaw02_reckons.calls k a1_0 a1_1 a1_2 a1_3 a1_4 a1_5 (Int.tmod a2 12) true _ (Glob.use hG (by decide) (by repeat (first | (with_reducible first | exact HB.out | exact Below.refl _ _ | apply below_alloc | apply pw_below_drewN | apply below_drew1) | exact HB.out | exact Below.refl _ _))) A10.out).mono ?_
    rintro e w21 ⟨rfl, hb⟩
    refine ⟨_, rfl, ?_⟩
    replace BK133 := Aside0.mk (blk_below (kp BK133.out) hb)
    replace BK134 := Aside0.mk (blk_below (kp BK134.out) hb)
    replace HB := Aside0.mk (below_step (bl HB.out) hb)
    (try clear hb)
    (try clear hb2)
    (try clear hk)
    (try clear hi)
    refine hK.out _ _ ⟨(blk_cell BK133.out 0).trans rfl, (blk_cell BK133.out 1).trans rfl, (blk_cell BK133.out 2).trans rfl, (blk_cell BK133.out 3).trans rfl, (blk_cell BK133.out 4).trans rfl, (blk_cell BK133.out 5).trans rfl, (blk_cell BK134.out 0).trans rfl, (blk_cell BK134.out 1).trans rfl, (blk_cell BK134.out 2).trans rfl, (blk_cell BK134.out 3).trans rfl, (blk_cell BK134.out 4).trans rfl, (blk_cell BK134.out 5).trans rfl⟩ (fun hHeld => ?_)
    clear hK K
    refine norm_ (a' := ?_) ?_ ?_
    rotate_left
    ·show Act.put _ (some 27) _ = _
     simp only [Act.put, List.setIfInBounds_toArray, List.set_cons_zero, List.set_cons_succ, i64_w, i32_w]
     rfl
    refine pure_ (i := 19) (N := some 28) (v := ?_) (a' := ?_) #[true, true, true, true, true, true, true, true, true, true, true, true, true, true, true, true, true, true, true, true, false, false, false, false, false, false, false, false, false, false, false] rfl rfl (any_of HT_.out (by kernel_rfl)) (fun _ _ _ h => h) (Or.inl ⟨by rfl, ?_⟩) ?_ ?_
    rotate_left
    ·intro w'
     go_simp
     with_reducible rfl
    rotate_left
    ·simp only [Act.put, List.setIfInBounds_toArray, List.set_cons_zero, List.set_cons_succ, i64_w, i32_w]
     rfl
    refine pure_ (i := 20) (N := some 29) (v := ?_) (a' := ?_) #[true, true, true, true, true, true, true, true, true, true, true, true, true, true, true, true, true, true, true, true, true, false, false, false, false, false, false, false, false, false, false] rfl rfl (any_of HT_.out (by kernel_rfl)) (fun _ _ _ h => h) (Or.inl ⟨by rfl, ?_⟩) ?_ ?_
    rotate_left
    ·intro w'
     go_simp
     with_reducible rfl
    rotate_left
    ·simp only [Act.put, List.setIfInBounds_toArray, List.set_cons_zero, List.set_cons_succ, i64_w, i32_w]
     rfl
    refine pure_ (i := 21) (N := some 30) (v := ?_) (a' := ?_) #[true, true, true, true, true, true, true, true, true, true, true, true, true, true, true, true, true, true, true, true, true, true, false, false, false, false, false, false, false, false, false] rfl rfl (any_of HT_.out (by kernel_rfl)) (fun _ _ _ h => h) (Or.inl ⟨by rfl, ?_⟩) ?_ ?_
    rotate_left
    ·intro w'
     go_simp
     with_reducible rfl
    rotate_left
    ·simp only [Act.put, List.setIfInBounds_toArray, List.set_cons_zero, List.set_cons_succ, i64_w, i32_w]
     rfl
    refine pure_ (i := 24) (N := some 33) (v := ?_) (a' := ?_) #[true, true, true, true, true, true, true, true, true, true, true, true, true, true, true, true, true, true, true, true, true, true, false, false, true, false, false, false, false, false, false] rfl rfl (any_of HT_.out (by kernel_rfl)) (fun _ _ _ h => h) (Or.inl ⟨by rfl, ?_⟩) ?_ ?_
    rotate_left
    ·intro w'
     go_simp
     with_reducible rfl
    rotate_left
    ·simp only [Act.put, List.setIfInBounds_toArray, List.set_cons_zero, List.set_cons_succ, i64_w, i32_w]
     rfl
    refine pure_ (i := 26) (N := some 35) (v := ?_) (a' := ?_) #[true, true, true, true, true, true, true, true, true, true, true, true, true, true, true, true, true, true, true, true, true, true, false, false, true, false, true, false, false, false, false] rfl rfl (any_of HT_.out (by kernel_rfl)) (fun _ _ _ h => h) (Or.inl ⟨by rfl, ?_⟩) ?_ ?_
    rotate_left
    ·intro w'
     go_simp
     with_reducible rfl
    rotate_left
    ·simp only [Act.put, List.setIfInBounds_toArray, List.set_cons_zero, List.set_cons_succ, i64_w, i32_w]
     rfl
    refine pure_ (i := 27) (N := some 36) (v := ?_) (a' := ?_) #[true, true, true, true, true, true, true, true, true, true, true, true, true, true, true, true, true, true, true, true, true, true, false, false, true, false, true, true, false, false, false] rfl rfl (any_of HT_.out (by kernel_rfl)) (fun _ _ _ h => h) (Or.inl ⟨by rfl, ?_⟩) ?_ ?_
    rotate_left
    ·intro w'
     go_simp
     with_reducible rfl
    rotate_left
    ·simp only [Act.put, List.setIfInBounds_toArray, List.set_cons_zero, List.set_cons_succ, i64_w, i32_w]
     rfl
    refine take_ (i := 22) (N := some 31) (v := ?_) (a' := ?_) #[true, true, true, true, true, true, true, true, true, true, true, true, true, true, true, true, true, true, true, true, true, true, true, false, true, false, true, true, false, false, false] rfl rfl (take_ofW HT_.out HW_.out (by kernel_rfl)) (fun _ _ _ h => h) (Or.inl ⟨by rfl, ?_⟩) hHeld ?_ ?_
    rotate_left
    ·rintro w' ⟨s0, s1, s2, s3, s4, s5, s6, s7, s8, s9, s10, s11⟩
     go_simp
     with_reducible rfl
    rotate_left
    ·simp only [Act.put, List.setIfInBounds_toArray, List.set_cons_zero, List.set_cons_succ, i64_w, i32_w]
     rfl
    refine take_ (i := 25) (N := some 34) (v := ?_) (a' := ?_) #[true, true, true, true, true, true, true, true, true, true, true, true, true, true, true, true, true, true, true, true, true, true, true, false, true, true, true, true, false, false, false] rfl rfl (take_ofW HT_.out HW_.out (by kernel_rfl)) (fun _ _ _ h => h) (Or.inl ⟨by rfl, ?_⟩) hHeld ?_ ?_
    rotate_left
    ·rintro w' ⟨s0, s1, s2, s3, s4, s5, s6, s7, s8, s9, s10, s11⟩
     go_simp
     with_reducible rfl
    rotate_left
    ·simp only [Act.put, List.setIfInBounds_toArray, List.set_cons_zero, List.set_cons_succ, i64_w, i32_w]
     rfl
    refine one_ (i := 23) (N := some 32) #[true, true, true, true, true, true, true, true, true, true, true, true, true, true, true, true, true, true, true, true, true, true, true, true, true, true, true, true, false, false, false] rfl rfl (one_of HT_.out (by kernel_rfl)) (by decide) (fun K hK => ?_)
    refine goes_ Tryd.func15 (by kernel_rfl) rfl #[.agg #[.int .i64 a0_0, .int .i64 a0_1, .int .i64 a0_2]] (by rfl) rfl rfl (by (try simp only [List.map_toArray, List.map_cons, List.map_nil]); first | done | rfl | (simp only [List.length_drop, List.length_take]; rfl)) ?_
    with_reducible refine (drachmlaw02_Spec_frac.calls k a0_0 a0_1 a0_2 t144 t145 t146 _ A12.out).mono ?_
    rintro e w22 ⟨rfl, hb⟩
    refine ⟨_, rfl, ?_⟩
    replace BK133 := Aside0.mk (blk_below (kp BK133.out) hb)
    replace BK134 := Aside0.mk (blk_below (kp BK134.out) hb)
    replace HB := Aside0.mk (below_step (bl HB.out) hb)
    (try clear hb)
    (try clear hb2)
    (try clear hk)
    (try clear hi)
    refine hK.out _ _ ⟨(blk_cell BK133.out 0).trans rfl, (blk_cell BK133.out 1).trans rfl, (blk_cell BK133.out 2).trans rfl, (blk_cell BK133.out 3).trans rfl, (blk_cell BK133.out 4).trans rfl, (blk_cell BK133.out 5).trans rfl, (blk_cell BK134.out 0).trans rfl, (blk_cell BK134.out 1).trans rfl, (blk_cell BK134.out 2).trans rfl, (blk_cell BK134.out 3).trans rfl, (blk_cell BK134.out 4).trans rfl, (blk_cell BK134.out 5).trans rfl⟩ (fun hHeld => ?_)
    clear hK K
    refine norm_ (a' := ?_) ?_ ?_
    rotate_left
    ·show Act.put _ (some 32) _ = _
     simp only [Act.put, List.setIfInBounds_toArray, List.set_cons_zero, List.set_cons_succ, i64_w, i32_w]
     rfl
    refine one_ (i := 28) (N := some 37) #[true, true, true, true, true, true, true, true, true, true, true, true, true, true, true, true, true, true, true, true, true, true, true, true, true, true, true, true, true, false, false] rfl rfl (one_of HT_.out (by kernel_rfl)) (by decide) (fun K hK => ?_)
    refine goes_ Tryd.func18 (by kernel_rfl) rfl #[.agg #[.int .i64 t144, .int .i64 t145, .int .i64 t146], .agg #[.int .i64 a1_0, .int .i64 a1_1, .int .i64 a1_2], .int .i64 (Int.tmod a2 7)] (by rfl) rfl rfl (by (try simp only [List.map_toArray, List.map_cons, List.map_nil]); first | done | rfl | (simp only [List.length_drop, List.length_take]; rfl)) ?_
    with_reducible refine (drachmlaw02_reckons.calls k t144 t145 t146 a1_0 a1_1 a1_2 (Int.tmod a2 7) t147 _ (Glob.use hG (by decide) (by repeat (first | (with_reducible first | exact HB.out | exact Below.refl _ _ | apply below_alloc | apply pw_below_drewN | apply below_drew1) | exact HB.out | exact Below.refl _ _))) A13.out).mono ?_
    rintro e w23 ⟨rfl, hb⟩
    refine ⟨_, rfl, ?_⟩
    replace BK133 := Aside0.mk (blk_below (kp BK133.out) hb)
    replace BK134 := Aside0.mk (blk_below (kp BK134.out) hb)
    replace HB := Aside0.mk (below_step (bl HB.out) hb)
    (try clear hb)
    (try clear hb2)
    (try clear hk)
    (try clear hi)
    refine hK.out _ _ ⟨(blk_cell BK133.out 0).trans rfl, (blk_cell BK133.out 1).trans rfl, (blk_cell BK133.out 2).trans rfl, (blk_cell BK133.out 3).trans rfl, (blk_cell BK133.out 4).trans rfl, (blk_cell BK133.out 5).trans rfl, (blk_cell BK134.out 0).trans rfl, (blk_cell BK134.out 1).trans rfl, (blk_cell BK134.out 2).trans rfl, (blk_cell BK134.out 3).trans rfl, (blk_cell BK134.out 4).trans rfl, (blk_cell BK134.out 5).trans rfl⟩ (fun hHeld => ?_)
    clear hK K
    refine norm_ (a' := ?_) ?_ ?_
    rotate_left
    ·show Act.put _ (some 37) _ = _
     simp only [Act.put, List.setIfInBounds_toArray, List.set_cons_zero, List.set_cons_succ, i64_w, i32_w]
     rfl
    refine pure_ (i := 29) (N := some 38) (v := ?_) (a' := ?_) #[true, true, true, true, true, true, true, true, true, true, true, true, true, true, true, true, true, true, true, true, true, true, true, true, true, true, true, true, true, true, false] rfl rfl (any_of HT_.out (by kernel_rfl)) (fun _ _ _ h => h) (Or.inl ⟨by rfl, ?_⟩) ?_ ?_
    rotate_left
    ·intro w'
     go_simp
     with_reducible rfl
    rotate_left
    ·simp only [Act.put, List.setIfInBounds_toArray, List.set_cons_zero, List.set_cons_succ, i64_w, i32_w]
     rfl
    refine pure_ (i := 30) (N := some 6) (v := ?_) (a' := ?_) #[true, true, true, true, true, true, true, true, true, true, true, true, true, true, true, true, true, true, true, true, true, true, true, true, true, true, true, true, true, true, true] rfl rfl (any_of HT_.out (by kernel_rfl)) (fun _ _ _ h => h) (Or.inl ⟨by rfl, ?_⟩) ?_ ?_
    rotate_left
    ·intro w'
     go_simp
     with_reducible rfl
    rotate_left
    ·simp only [Act.put, List.setIfInBounds_toArray, List.set_cons_zero, List.set_cons_succ, i64_w, i32_w]
     rfl
    refine done_ (done_of HT_.out (by kernel_rfl)) ?_
    try go_wp2
    go_ret
    exact ⟨by first | rfl | (simp [errW_none, errW_some] <;> rfl) | (simp [*, errW_none, errW_some] <;> rfl), bl HB.out⟩
   ·replace c11 := Bool.eq_false_iff.mpr c11
    subst c11
    have H1 : (none) = some r := by rw [if_neg (show ¬ (false = true) by decide)] at H; exact H
    clear H
    have H := H1
    clear H1
    exact absurd H (by simp)
  ·replace c9 := Bool.eq_false_iff.mpr c9
   subst c9
   have H1 : (none) = some r := by rw [if_neg (show ¬ (false = true) by decide)] at H; exact H
   clear H
   have H := H1
   clear H1
   exact absurd H (by simp)
 ·replace c5 := Bool.eq_false_iff.mpr c5
  subst c5
  have H1 : (none) = some r := by rw [if_neg (show ¬ (false = true) by decide)] at H; exact H
  clear H
  have H := H1
  clear H1
  exact absurd H (by simp)

/-- THE ONE PURE STATEMENT of drachmlaw02_FracReckons: yours. -/
def drachmlaw02_FracReckons.Pure : Prop := ∀ (a0_0 : Int) (a0_1 : Int) (a0_2 : Int) (a0_3 : Int) (a0_4 : Int) (a0_5 : Int) (a1_0 : Int) (a1_1 : Int) (a1_2 : Int) (a1_3 : Int) (a1_4 : Int) (a1_5 : Int) (a2 : Int), (Lit.int .i64 a0_0).wf = true → (Lit.int .i64 a0_1).wf = true → (Lit.int .i64 a0_2).wf = true → (Lit.int .i64 a0_3).wf = true → (Lit.int .i64 a0_4).wf = true → (Lit.int .i64 a0_5).wf = true → (Lit.int .i64 a1_0).wf = true → (Lit.int .i64 a1_1).wf = true → (Lit.int .i64 a1_2).wf = true → (Lit.int .i64 a1_3).wf = true → (Lit.int .i64 a1_4).wf = true → (Lit.int .i64 a1_5).wf = true → (Lit.int .i64 a2).wf = true → ∃ k, drachmlaw02_FracReckons.f k a0_0 a0_1 a0_2 a0_3 a0_4 a0_5 a1_0 a1_1 a1_2 a1_3 a1_4 a1_5 a2 = some true
theorem drachmlaw02_FracReckons.walk (P : drachmlaw02_FracReckons.Pure) (a0_0 : Int) (a0_1 : Int) (a0_2 : Int) (a0_3 : Int) (a0_4 : Int) (a0_5 : Int) (a1_0 : Int) (a1_1 : Int) (a1_2 : Int) (a1_3 : Int) (a1_4 : Int) (a1_5 : Int) (a2 : Int) (w : World) (hG : Glob [0, 1] w) (w0_0 : (Lit.int .i64 a0_0).wf = true) (w0_1 : (Lit.int .i64 a0_1).wf = true) (w0_2 : (Lit.int .i64 a0_2).wf = true) (w0_3 : (Lit.int .i64 a0_3).wf = true) (w0_4 : (Lit.int .i64 a0_4).wf = true) (w0_5 : (Lit.int .i64 a0_5).wf = true) (w1_0 : (Lit.int .i64 a1_0).wf = true) (w1_1 : (Lit.int .i64 a1_1).wf = true) (w1_2 : (Lit.int .i64 a1_2).wf = true) (w1_3 : (Lit.int .i64 a1_3).wf = true) (w1_4 : (Lit.int .i64 a1_4).wf = true) (w1_5 : (Lit.int .i64 a1_5).wf = true) (w2 : (Lit.int .i64 a2).wf = true) :
  Calls Tryd.prog 6 #[.agg #[.int .i64 a0_0, .int .i64 a0_1, .int .i64 a0_2, .int .i64 a0_3, .int .i64 a0_4, .int .i64 a0_5], .agg #[.int .i64 a1_0, .int .i64 a1_1, .int .i64 a1_2, .int .i64 a1_3, .int .i64 a1_4, .int .i64 a1_5], .int .i64 a2] w fun e w' => e = .returned (.bool true) ∧ Below w.heap.size w w' := by
 obtain ⟨k, h⟩ := P a0_0 a0_1 a0_2 a0_3 a0_4 a0_5 a1_0 a1_1 a1_2 a1_3 a1_4 a1_5 a2 w0_0 w0_1 w0_2 w0_3 w0_4 w0_5 w1_0 w1_1 w1_2 w1_3 w1_4 w1_5 w2
 refine (drachmlaw02_FracReckons.calls k a0_0 a0_1 a0_2 a0_3 a0_4 a0_5 a1_0 a1_1 a1_2 a1_3 a1_4 a1_5 a2 true w hG h).mono ?_
 rintro e w' ⟨rfl, hd⟩
 exact ⟨rfl, hd⟩

end Go.Proofs.YtnndaackjgnhhaaDoor.PFracReckons
