/- Printed by a program of this session (wip/tools/prt.py) out of the translation: plain functions, and that the calls come to just them. No conditions beyond those that stand in each theorem. -/
import Derived.Test.YtnndaackjgnhhaaDoorGlob
import Derived.Test.YtnndaackjgnhhaaDoorPFracTextsx0
import Derived.Test.YtnndaackjgnhhaaDoorPFracTextsx1
namespace Go.Proofs.YtnndaackjgnhhaaDoor.PFracTexts
open Go.Proofs.YtnndaackjgnhhaaDoor.Sq Go.RowKit Go.Proofs.YtnndaackjgnhhaaDoorW.PrintWords Go.Proofs.YtnndaackjgnhhaaDoorW.PrintLast Go.Proofs.YtnndaackjgnhhaaDoorW.PrintMore Go.Proofs.YtnndaackjgnhhaaDoor.PB Go.Proofs.YtnndaackjgnhhaaDoor.PC Go.Proofs.YtnndaackjgnhhaaDoor.PD Go.Proofs.YtnndaackjgnhhaaDoor.PE Go.Proofs.YtnndaackjgnhhaaDoor.PT
attribute [local go_sem] max2_int min2_int max_two min_two max_three min_three max_four min_four   -- for this text's walks alone
set_option linter.unusedVariables false
set_option linter.unusedSimpArgs false

attribute [local go_sem high] eqA24
/-! ### drachmlaw02_FracTexts: function 8 -/
def drachmlaw02_FracTexts.j0 : Nat → ByteArray → Bool → Int → Int → Int → Int → Int → Int → Option (Bool)
 | 0, _, _, _, _, _, _, _, _ => none
 | k + 1, x2, x7, x102000, x102001, x102002, x103000, x103001, x103002 => (frac_Read.f k x2).bind fun bt104 => ((drachmref02_Read.f k x2).bind fun bt109 => (if x7 = true then ((drachmlaw02_Spec_frac.f k x102000 x102001 x102002).bind fun bt114 => ((frac_Text.f k bt114.1 bt114.2.1 bt114.2.2).bind fun t117 => ((drachmlaw02_Spec_frac.f k x102000 x102001 x102002).bind fun bt118 => ((drachmref02_Text.f k bt118.1 bt118.2.1 bt118.2.2).bind fun t121 => (if t117.toList = t121.toList then ((frac_Text.f k x103000 x103001 x103002).bind fun t122 => ((drachmref02_Text.f k x103000 x103001 x103002).bind fun t123 => (if t122.toList = t123.toList then (if (bt104.1 == bt109.1 && (bt104.2.1 == bt109.2.1 && (bt104.2.2.1 == bt109.2.2.1))) = true then (some (bt104.2.2.2 == bt109.2.2.2)) else (none)) else (none)))) else (none)))))) else (none)))
def drachmlaw02_FracTexts.f (k : Nat) (a0_0 : Int) (a0_1 : Int) (a0_2 : Int) (a1_0 : Int) (a1_1 : Int) (a1_2 : Int) (a2 : ByteArray) : Option (Bool) := (drachmlaw02_awake.f k).bind fun t103 => (if (a2.size : Int) > 60 then (if 0 ≤ 60 then (if 60 ≤ (a2.size : Int) then (drachmlaw02_FracTexts.j0 k (a2.extract 0 60) t103 a0_0 a0_1 a0_2 a1_0 a1_1 a1_2) else (none)) else (none)) else (drachmlaw02_FracTexts.j0 k a2 t103 a0_0 a0_1 a0_2 a1_0 a1_1 a1_2))
theorem drachmlaw02_FracTexts.mono_l : ∀ k, (∀ y0 y1 y2 y3 y4 y5 y6 y7, LeO (drachmlaw02_FracTexts.j0 k y0 y1 y2 y3 y4 y5 y6 y7) (drachmlaw02_FracTexts.j0 (k + 1) y0 y1 y2 y3 y4 y5 y6 y7))
 | 0 => fun _ _ _ _ _ _ _ _ r h => by simp [drachmlaw02_FracTexts.j0] at h
 | k + 1 => by
  have ih0 := drachmlaw02_FracTexts.mono_l k
  ·intro y0 y1 y2 y3 y4 y5 y6 y7
   unfold drachmlaw02_FracTexts.j0
   repeat' first
   | (with_reducible exact ih0 _ _ _ _ _ _ _ _)
   | (with_reducible exact drachmlaw02_Spec_frac.mono _ _ _ _)
   | (with_reducible exact drachmlaw02_awake.mono _)
   | (with_reducible exact drachmref02_Read.mono _ _)
   | (with_reducible exact drachmref02_Text.mono _ _ _ _)
   | (with_reducible exact frac_Read.mono _ _)
   | (with_reducible exact frac_Text.mono _ _ _ _)
   | (with_reducible exact LeO.refl _)
   | (with_reducible exact LeO.none _)
   | (with_reducible refine LeO.ite ?_ ?_)
   | (with_reducible refine LeO.bind ?_ (fun _ => ?_))
   | exact ih0 _ _ _ _ _ _ _ _
   | exact drachmlaw02_Spec_frac.mono _ _ _ _
   | exact drachmlaw02_awake.mono _
   | exact drachmref02_Read.mono _ _
   | exact drachmref02_Text.mono _ _ _ _
   | exact frac_Read.mono _ _
   | exact frac_Text.mono _ _ _ _
   | exact LeO.none _
   | refine LeO.ite ?_ ?_
   | refine LeO.bind ?_ (fun _ => ?_)
theorem drachmlaw02_FracTexts.mono : ∀ a0 a1 a2 a3 a4 a5 a6 k, LeO (drachmlaw02_FracTexts.f k a0 a1 a2 a3 a4 a5 a6) (drachmlaw02_FracTexts.f (k + 1) a0 a1 a2 a3 a4 a5 a6) := by
 intro a0 a1 a2 a3 a4 a5 a6 k
 have ih0 := drachmlaw02_FracTexts.mono_l k
 unfold drachmlaw02_FracTexts.f
 repeat' first
   | (with_reducible exact ih0 _ _ _ _ _ _ _ _)
   | (with_reducible exact drachmlaw02_Spec_frac.mono _ _ _ _)
   | (with_reducible exact drachmlaw02_awake.mono _)
   | (with_reducible exact drachmref02_Read.mono _ _)
   | (with_reducible exact drachmref02_Text.mono _ _ _ _)
   | (with_reducible exact frac_Read.mono _ _)
   | (with_reducible exact frac_Text.mono _ _ _ _)
   | (with_reducible exact LeO.refl _)
   | (with_reducible exact LeO.none _)
   | (with_reducible refine LeO.ite ?_ ?_)
   | (with_reducible refine LeO.bind ?_ (fun _ => ?_))
   | exact ih0 _ _ _ _ _ _ _ _
   | exact drachmlaw02_Spec_frac.mono _ _ _ _
   | exact drachmlaw02_awake.mono _
   | exact drachmref02_Read.mono _ _
   | exact drachmref02_Text.mono _ _ _ _
   | exact frac_Read.mono _ _
   | exact frac_Text.mono _ _ _ _
   | exact LeO.none _
   | refine LeO.ite ?_ ?_
   | refine LeO.bind ?_ (fun _ => ?_)
def drachmlaw02_FracTexts.T6 : Bool × List (List Nat × List Nat) := (true, [([], []), ([0], [0]), ([1], [1]), ([2, 1, 1], [1, 2]), ([3, 3, 1], [1, 3]), ([1], [1]), ([5, 4, 1], [1, 5]), ([6, 6, 1], [1, 6]), ([4, 7, 1], [1, 4, 7]), ([1, 8], [1, 8]), ([9, 7], [9]), ([10], [10]), ([11, 10, 10], [10, 11]), ([10], [10]), ([13, 12, 10], [10, 13]), ([12, 14, 10], [10, 12, 14]), ([10, 15], [10, 15]), ([16, 14], [16]), ([17], [17]), ([17], [17]), ([19, 17], [17, 19]), ([18, 20, 17], [17, 18, 20]), ([17, 21], [17, 21]), ([22, 17], [22]), ([23], [23]), ([23], [23]), ([25, 23], [23, 25]), ([24, 26, 23], [23, 24, 26]), ([23, 27], [23, 27]), ([28, 23, 0, 1, 2, 3, 4, 5, 6, 7, 8, 9, 10, 11, 12, 13, 14, 15, 16, 17, 18, 19, 20, 21, 22, 23, 24, 25, 26, 27, 28], [28])])
def drachmlaw02_FracTexts.B6 : List Nat := [0, 1, 3, 7, 15, 3, 63, 127, 255, 511, 1023, 2047, 4095, 2047, 16383, 32767, 65535, 131071, 262143, 262143, 786431, 2097151, 4194303, 8388607, 16777215, 16777215, 50331647, 134217727, 268435455, 536870911]
theorem drachmlaw02_FracTexts.tab6 : rtab .any (opsOf Tryd.f8 6) = drachmlaw02_FracTexts.T6 := by kernel_rfl
theorem drachmlaw02_FracTexts.bits6 : waitsOk drachmlaw02_FracTexts.T6.2 drachmlaw02_FracTexts.B6 = true := by kernel_rfl
set_option maxHeartbeats 8000000 in
set_option maxRecDepth 100000 in
theorem drachmlaw02_FracTexts.calls (k : Nat) (a0_0 : Int) (a0_1 : Int) (a0_2 : Int) (a1_0 : Int) (a1_1 : Int) (a1_2 : Int) (a2 : ByteArray) (r : Bool) (w : World) (hG : Glob [1, 3, 4, 5] w) (h : drachmlaw02_FracTexts.f k a0_0 a0_1 a0_2 a1_0 a1_1 a1_2 a2 = some r) :
  Calls Tryd.prog 8 #[.agg #[.int .i64 a0_0, .int .i64 a0_1, .int .i64 a0_2], .agg #[.int .i64 a1_0, .int .i64 a1_1, .int .i64 a1_2], .string a2] w fun e w' => e = .returned (.bool r) ∧ Below w.heap.size w w' := by
 have hu23 := Tryd.underlying23
 have hu24 := Tryd.underlying24
 have hu30 := Tryd.underlying30
 have HB := Aside0.mk (Below.refl w.heap.size w)
 have H : ((drachmlaw02_awake.f k).bind fun t103 => (if (a2.size : Int) > 60 then (if 0 ≤ 60 then (if 60 ≤ (a2.size : Int) then (drachmlaw02_FracTexts.j0 k (a2.extract 0 60) t103 a0_0 a0_1 a0_2 a1_0 a1_1 a1_2) else (none)) else (none)) else (drachmlaw02_FracTexts.j0 k a2 t103 a0_0 a0_1 a0_2 a1_0 a1_1 a1_2))) = some r := h
 clear h
 replace H := Option.bind_eq_some_iff.mp H
 obtain ⟨t103, A40, H⟩ := H
 replace H : (if (a2.size : Int) > 60 then (if 0 ≤ 60 then (if 60 ≤ (a2.size : Int) then (drachmlaw02_FracTexts.j0 k (a2.extract 0 60) t103 a0_0 a0_1 a0_2 a1_0 a1_1 a1_2) else (none)) else (none)) else (drachmlaw02_FracTexts.j0 k a2 t103 a0_0 a0_1 a0_2 a1_0 a1_1 a1_2)) = some r := H
 have A4 := Aside0.mk A40
 clear A40
 have HC5 := Aside0.mk H
 clear H
 go_enter Tryd.func8, Tryd.ntmps8
 go_upto_if 14 with (first | ((with_reducible refine gate_dst (N := 3) rfl ?_); refine box_event ?hg (N := 3) ?hd (cs := #[.int .i64 a0_0, .int .i64 a0_1, .int .i64 a0_2]) (t := 23) ?hr ?_; (case hd => rfl); (case hg => rfl); (case hr => first | (go_simp; done) | (go_simp; rfl)); intro gb101 hg w6 hbox hb; have n0_ := Aside0.mk (below_step (bl HB.out) hb); have n1_ := Aside0.mk (hbox); have n2_ := Aside0.mk ((by rw [hg]; exact (below_size (bl HB.out)) : w.heap.size ≤ gb101)); have n3_ := Aside0.mk ((by rw [hg]; exact (below_size (bl HB.out)) : w.heap.size ≤ gb101)); clear HB; have HB := n0_; have BK101 := n1_; have GW101 := n2_; have GE101 := n3_; clear n0_ n1_ n2_ n3_; clear hb hbox hg) | ((with_reducible refine gate_dst (N := 4) rfl ?_); refine box_event ?hg (N := 4) ?hd (cs := #[.int .i64 a1_0, .int .i64 a1_1, .int .i64 a1_2]) (t := 24) ?hr ?_; (case hd => rfl); (case hg => rfl); (case hr => first | (go_simp; done) | (go_simp; rfl)); intro gb102 hg w7 hbox hb; have n0_ := Aside0.mk (blk_below (kp BK101.out) hb); have n1_ := Aside0.mk (below_step (bl HB.out) hb); have n2_ := Aside0.mk (hbox); have n3_ := Aside0.mk ((by rw [hg]; exact (below_size (bl HB.out)) : w.heap.size ≤ gb102)); have n4_ := Aside0.mk ((by rw [hg]; exact (below_size (bl HB.out)) : w.heap.size ≤ gb102)); have n5_ := Aside0.mk ((by rw [hg]; exact Nat.ne_of_lt (blk_lt (kp BK101.out)) : gb101 ≠ gb102)); have n6_ := Aside0.mk ((by rw [hg]; exact Nat.ne_of_gt (blk_lt (kp BK101.out)) : gb102 ≠ gb101)); clear BK101; clear HB; have BK101 := n0_; have HB := n1_; have BK102 := n2_; have GW102 := n3_; have GE102 := n4_; have NB101_102 := n5_; have NB102_101 := n6_; clear n0_ n1_ n2_ n3_ n4_ n5_ n6_; clear hb hbox hg) | ((with_reducible refine gate_callee (f := 10) rfl ?_); refine goesL_ (some 11) rfl rfl Tryd.func10 (by kernel_rfl) rfl #[] rfl (by (try simp only [List.map_toArray, List.map_cons, List.map_nil]); first | done | rfl | (simp only [List.length_drop, List.length_take]; rfl)) ?_; (with_reducible refine (drachmlaw02_awake.calls k  t103 _ (Glob.use hG (by decide) (bl HB.out)) A4.out).mono ?_); rintro e w8 ⟨rfl, hb⟩; refine ⟨_, rfl, ?_⟩; replace BK101 := Aside0.mk (blk_below (kp BK101.out) hb); replace BK102 := Aside0.mk (blk_below (kp BK102.out) hb); replace HB := Aside0.mk (below_step (bl HB.out) hb); (try clear hb); (try clear hb2); (try clear hk); (try clear hi)))
 (try simp only [Act.put, List.setIfInBounds_toArray, List.set_cons_zero, List.set_cons_succ])
 go_cut [2] (fun v2 wc => ∃ (kq : Nat) (x2_4 : ByteArray), v2 = .string x2_4 ∧ Aside0 (drachmlaw02_FracTexts.j0 kq x2_4 t103 a0_0 a0_1 a0_2 a1_0 a1_1 a1_2 = some r) ∧ Aside0 (kq ≤ k) ∧ Aside0 (wc.heap[gb101]? = some (.cells #[.int .i64 a0_0, .int .i64 a0_1, .int .i64 a0_2] 23 (0, 0))) ∧ Aside0 (wc.heap[gb102]? = some (.cells #[.int .i64 a1_0, .int .i64 a1_1, .int .i64 a1_2] 24 (0, 0))) ∧ Aside0 (Below w.heap.size w wc))
 case first =>
  have H := HC5.out
  clear HC5
  by_cases c9 : (a2.size : Int) > 60
  ·rw [if_pos c9] at H
   have c9b0 : decide (60 < (a2.size : Int)) = true := decide_eq_true c9
   have c9b1 : decide (60 < a2.size) = true := decide_eq_true (by omega)
   clear c9
   (first | rw [c9b0] | (simp only [i64_w, i32_w]; rw [c9b0]) | skip)
   by_cases c10 : 0 ≤ 60
   ·rw [if_pos c10] at H
    have c10b0 := eq_true c10
    have c10b1 : decide (0 ≤ 60) = true := decide_eq_true c10
    clear c10
    by_cases c11 : 60 ≤ (a2.size : Int)
    ·rw [if_pos c11] at H
     have c11b0 := eq_true c11
     have c11b1 : decide (60 ≤ (a2.size : Int)) = true := decide_eq_true c11
     clear c11
     have H' := Aside0.mk H
     clear H
     go_wp2
     go_meet
     case rel => exact ⟨_, (a2.extract 0 60), (by first | rfl | (simp; done) | (simp [*]; done)), H', ⟨by first | omega | exact Nat.le_refl _⟩, ⟨kp BK101.out⟩, ⟨kp BK102.out⟩, ⟨bl HB.out⟩⟩
    ·rw [if_neg c11] at H
     exact absurd H (by simp)
   ·rw [if_neg c10] at H
    exact absurd H (by simp)
  ·rw [if_neg c9] at H
   have c9b0 : decide (60 < (a2.size : Int)) = false := decide_eq_false c9
   have c9b1 : decide (60 < a2.size) = false := decide_eq_false (by omega)
   clear c9
   (first | rw [c9b0] | (simp only [i64_w, i32_w]; rw [c9b0]) | skip)
   have H' := Aside0.mk H
   clear H
   go_wp2
   go_meet
   case rel => exact ⟨_, (a2), (by first | rfl | (simp; done) | (simp [*]; done)), H', ⟨by first | omega | exact Nat.le_refl _⟩, ⟨kp BK101.out⟩, ⟨kp BK102.out⟩, ⟨bl HB.out⟩⟩
 case rest =>
  clear HC5
  try clear c1
  try clear p2
  try clear c8
  try clear c9
  try clear c9b0
  try clear c9b1
  try clear c10
  try clear c10b0
  try clear c10b1
  try clear c11
  try clear c11b0
  try clear c11b1
  obtain ⟨kq, x2_4, rfl, HA, HJ4, BK101, BK102, HB⟩ := hcut
  cases kq with
  | zero => exact absurd HA.out (by simp [drachmlaw02_FracTexts.j0])
  | succ kj4 =>
   have H := HA.out
   clear HA
   simp only [drachmlaw02_FracTexts.j0] at H
   replace H := Option.bind_eq_some_iff.mp H
   obtain ⟨⟨t104, t105, t106, t107⟩, A120, H⟩ := H
   replace H : ((drachmref02_Read.f kj4 x2_4).bind fun bt109 => (if t103 = true then ((drachmlaw02_Spec_frac.f kj4 a0_0 a0_1 a0_2).bind fun bt114 => ((frac_Text.f kj4 bt114.1 bt114.2.1 bt114.2.2).bind fun t117 => ((drachmlaw02_Spec_frac.f kj4 a0_0 a0_1 a0_2).bind fun bt118 => ((drachmref02_Text.f kj4 bt118.1 bt118.2.1 bt118.2.2).bind fun t121 => (if t117.toList = t121.toList then ((frac_Text.f kj4 a1_0 a1_1 a1_2).bind fun t122 => ((drachmref02_Text.f kj4 a1_0 a1_1 a1_2).bind fun t123 => (if t122.toList = t123.toList then (if (t104 == bt109.1 && (t105 == bt109.2.1 && (t106 == bt109.2.2.1))) = true then (some (t107 == bt109.2.2.2)) else (none)) else (none)))) else (none)))))) else (none))) = some r := H
   have A12 := Aside0.mk A120
   clear A120
   replace H := Option.bind_eq_some_iff.mp H
   obtain ⟨⟨t109, t110, t111, t112⟩, A130, H⟩ := H
   replace H : (if t103 = true then ((drachmlaw02_Spec_frac.f kj4 a0_0 a0_1 a0_2).bind fun bt114 => ((frac_Text.f kj4 bt114.1 bt114.2.1 bt114.2.2).bind fun t117 => ((drachmlaw02_Spec_frac.f kj4 a0_0 a0_1 a0_2).bind fun bt118 => ((drachmref02_Text.f kj4 bt118.1 bt118.2.1 bt118.2.2).bind fun t121 => (if t117.toList = t121.toList then ((frac_Text.f kj4 a1_0 a1_1 a1_2).bind fun t122 => ((drachmref02_Text.f kj4 a1_0 a1_1 a1_2).bind fun t123 => (if t122.toList = t123.toList then (if (t104 == t109 && (t105 == t110 && (t106 == t111))) = true then (some (t107 == t112)) else (none)) else (none)))) else (none)))))) else (none)) = some r := H
   have A13 := Aside0.mk A130
   clear A130
   by_cases c14 : t103 = true
   ·subst c14
    have H1 : ((drachmlaw02_Spec_frac.f kj4 a0_0 a0_1 a0_2).bind fun bt114 => ((frac_Text.f kj4 bt114.1 bt114.2.1 bt114.2.2).bind fun t117 => ((drachmlaw02_Spec_frac.f kj4 a0_0 a0_1 a0_2).bind fun bt118 => ((drachmref02_Text.f kj4 bt118.1 bt118.2.1 bt118.2.2).bind fun t121 => (if t117.toList = t121.toList then ((frac_Text.f kj4 a1_0 a1_1 a1_2).bind fun t122 => ((drachmref02_Text.f kj4 a1_0 a1_1 a1_2).bind fun t123 => (if t122.toList = t123.toList then (if (t104 == t109 && (t105 == t110 && (t106 == t111))) = true then (some (t107 == t112)) else (none)) else (none)))) else (none)))))) = some r := by rw [if_pos rfl] at H; exact H
    clear H
    have H := H1
    clear H1
    replace H := Option.bind_eq_some_iff.mp H
    obtain ⟨⟨t114, t115, t116⟩, A150, H⟩ := H
    replace H : ((frac_Text.f kj4 t114 t115 t116).bind fun t117 => ((drachmlaw02_Spec_frac.f kj4 a0_0 a0_1 a0_2).bind fun bt118 => ((drachmref02_Text.f kj4 bt118.1 bt118.2.1 bt118.2.2).bind fun t121 => (if t117.toList = t121.toList then ((frac_Text.f kj4 a1_0 a1_1 a1_2).bind fun t122 => ((drachmref02_Text.f kj4 a1_0 a1_1 a1_2).bind fun t123 => (if t122.toList = t123.toList then (if (t104 == t109 && (t105 == t110 && (t106 == t111))) = true then (some (t107 == t112)) else (none)) else (none)))) else (none))))) = some r := H
    have A15 := Aside0.mk A150
    clear A150
    replace H := Option.bind_eq_some_iff.mp H
    obtain ⟨t117, A160, H⟩ := H
    replace H : ((drachmlaw02_Spec_frac.f kj4 a0_0 a0_1 a0_2).bind fun bt118 => ((drachmref02_Text.f kj4 bt118.1 bt118.2.1 bt118.2.2).bind fun t121 => (if t117.toList = t121.toList then ((frac_Text.f kj4 a1_0 a1_1 a1_2).bind fun t122 => ((drachmref02_Text.f kj4 a1_0 a1_1 a1_2).bind fun t123 => (if t122.toList = t123.toList then (if (t104 == t109 && (t105 == t110 && (t106 == t111))) = true then (some (t107 == t112)) else (none)) else (none)))) else (none)))) = some r := H
    have A16 := Aside0.mk A160
    clear A160
    replace H := Option.bind_eq_some_iff.mp H
    obtain ⟨⟨t118, t119, t120⟩, A170, H⟩ := H
    replace H : ((drachmref02_Text.f kj4 t118 t119 t120).bind fun t121 => (if t117.toList = t121.toList then ((frac_Text.f kj4 a1_0 a1_1 a1_2).bind fun t122 => ((drachmref02_Text.f kj4 a1_0 a1_1 a1_2).bind fun t123 => (if t122.toList = t123.toList then (if (t104 == t109 && (t105 == t110 && (t106 == t111))) = true then (some (t107 == t112)) else (none)) else (none)))) else (none))) = some r := H
    have A17 := Aside0.mk A170
    clear A170
    replace H := Option.bind_eq_some_iff.mp H
    obtain ⟨t121, A180, H⟩ := H
    replace H : (if t117.toList = t121.toList then ((frac_Text.f kj4 a1_0 a1_1 a1_2).bind fun t122 => ((drachmref02_Text.f kj4 a1_0 a1_1 a1_2).bind fun t123 => (if t122.toList = t123.toList then (if (t104 == t109 && (t105 == t110 && (t106 == t111))) = true then (some (t107 == t112)) else (none)) else (none)))) else (none)) = some r := H
    have A18 := Aside0.mk A180
    clear A180
    by_cases c19 : t117.toList = t121.toList
    ·rw [if_pos c19] at H
     have c19b0 : (t117.toList == t121.toList) = true := beq_iff_eq.mpr c19
     have c19b1 : (t117.toList != t121.toList) = false := bne_eq_false_iff_eq.mpr c19
     clear c19
     replace H := Option.bind_eq_some_iff.mp H
     obtain ⟨t122, A200, H⟩ := H
     replace H : ((drachmref02_Text.f kj4 a1_0 a1_1 a1_2).bind fun t123 => (if t122.toList = t123.toList then (if (t104 == t109 && (t105 == t110 && (t106 == t111))) = true then (some (t107 == t112)) else (none)) else (none))) = some r := H
     have A20 := Aside0.mk A200
     clear A200
     replace H := Option.bind_eq_some_iff.mp H
     obtain ⟨t123, A210, H⟩ := H
     replace H : (if t122.toList = t123.toList then (if (t104 == t109 && (t105 == t110 && (t106 == t111))) = true then (some (t107 == t112)) else (none)) else (none)) = some r := H
     have A21 := Aside0.mk A210
     clear A210
     by_cases c22 : t122.toList = t123.toList
     ·rw [if_pos c22] at H
      have c22b0 : (t122.toList == t123.toList) = true := beq_iff_eq.mpr c22
      have c22b1 : (t122.toList != t123.toList) = false := bne_eq_false_iff_eq.mpr c22
      clear c22
      by_cases c23 : (t104 == t109 && (t105 == t110 && (t106 == t111))) = true
      ·rw [if_pos c23] at H
       have c23b0 : (t104 == t109 && (t105 == t110 && (t106 == t111))) = true := c23
       (try (have c23b1 : decide (t104 = t109 && (t105 == t110 && (t106 == t111))) = true := by simpa using c23))
       (try (have c23b2 : (t104 == t109 && (t105 == t110 && (t106 == t111))) = true := by simpa using c23))
       clear c23
       obtain rfl := Option.some.inj H
       try go_wp2_with (first | ((with_reducible refine gate_callee (f := 20) rfl ?_); refine goesL_ (some 19) rfl rfl Tryd.func20 (by kernel_rfl) rfl #[.string x2_4] rfl (by (try simp only [List.map_toArray, List.map_cons, List.map_nil]); first | done | rfl | (simp only [List.length_drop, List.length_take]; rfl)) ?_; (with_reducible refine (frac_Read.calls kj4 x2_4 t104 t105 t106 t107 _ (Glob.use hG (by decide) (bl HB.out)) A12.out).mono ?_); rintro e w24 ⟨rfl, hb⟩; refine ⟨_, rfl, ?_⟩; replace BK101 := Aside0.mk (blk_below (kp BK101.out) hb); replace BK102 := Aside0.mk (blk_below (kp BK102.out) hb); replace HB := Aside0.mk (below_step (bl HB.out) hb); (try clear hb); (try clear hb2); (try clear hk); (try clear hi)) | ((with_reducible refine gate_dst (N := 8) rfl ?_); refine box_event ?hg (N := 8) ?hd (cs := #[.int .i64 0, .int .i64 0, .int .i64 0]) (t := 24) ?hr ?_; (case hd => rfl); (case hg => rfl); (case hr => first | (go_simp; done) | (go_simp; rfl)); intro gb108 hg w25 hbox hb; have n0_ := Aside0.mk (blk_below (kp BK101.out) hb); have n1_ := Aside0.mk (blk_below (kp BK102.out) hb); have n2_ := Aside0.mk (below_step (bl HB.out) hb); have n3_ := Aside0.mk (hbox); have n4_ := Aside0.mk ((by rw [hg]; exact (below_size (bl HB.out)) : w.heap.size ≤ gb108)); have n5_ := Aside0.mk ((by rw [hg]; exact (below_size (bl HB.out)) : w.heap.size ≤ gb108)); have n6_ := Aside0.mk ((by rw [hg]; exact Nat.ne_of_lt (blk_lt (kp BK101.out)) : gb101 ≠ gb108)); have n7_ := Aside0.mk ((by rw [hg]; exact Nat.ne_of_gt (blk_lt (kp BK101.out)) : gb108 ≠ gb101)); have n8_ := Aside0.mk ((by rw [hg]; exact Nat.ne_of_lt (blk_lt (kp BK102.out)) : gb102 ≠ gb108)); have n9_ := Aside0.mk ((by rw [hg]; exact Nat.ne_of_gt (blk_lt (kp BK102.out)) : gb108 ≠ gb102)); clear BK101; clear BK102; clear HB; have BK101 := n0_; have BK102 := n1_; have HB := n2_; have BK108 := n3_; have GW108 := n4_; have GE108 := n5_; have NB101_108 := n6_; have NB108_101 := n7_; have NB102_108 := n8_; have NB108_102 := n9_; clear n0_ n1_ n2_ n3_ n4_ n5_ n6_ n7_ n8_ n9_; clear hb hbox hg; have hnb26 := NB108_101.out; have hnc26 := NB101_108.out; have hnb27 := NB108_102.out; have hnc27 := NB102_108.out; obtain ⟨hcz28_0, hcz28_1, hcz28_2⟩ := hc3 BK108.out; obtain ⟨hfz28_0, hfz28_1, hfz28_2⟩ := hf3 BK108.out) | ((with_reducible refine gate_callee (f := 21) rfl ?_); refine goesL_ (some 23) rfl rfl Tryd.func21 (by kernel_rfl) rfl #[.string x2_4] rfl (by (try simp only [List.map_toArray, List.map_cons, List.map_nil]); first | done | rfl | (simp only [List.length_drop, List.length_take]; rfl)) ?_; (with_reducible refine (drachmref02_Read.calls kj4 x2_4 t109 t110 t111 t112 _ A13.out).mono ?_); rintro e w29 ⟨rfl, hb⟩; refine ⟨_, rfl, ?_⟩; replace BK101 := Aside0.mk (blk_below (kp BK101.out) hb); replace BK102 := Aside0.mk (blk_below (kp BK102.out) hb); replace BK108 := Aside0.mk (blk_below (kp (p3_2 (kp (p3_1 (kp (p3_0 (kp BK108.out))))))) hb); replace HB := Aside0.mk (below_step (bl HB.out) hb); (try clear hb); (try clear hb2); (try clear hk); (try clear hi)) | ((with_reducible refine gate_dst (N := 10) rfl ?_); refine box_event ?hg (N := 10) ?hd (cs := #[.int .i64 0, .int .i64 0, .int .i64 0, .int .i64 0]) (t := 30) ?hr ?_; (case hd => rfl); (case hg => rfl); (case hr => first | (go_simp; done) | (go_simp; rfl)); intro gb113 hg w30 hbox hb; have n0_ := Aside0.mk (blk_below (kp BK101.out) hb); have n1_ := Aside0.mk (blk_below (kp BK102.out) hb); have n2_ := Aside0.mk (blk_below (kp BK108.out) hb); have n3_ := Aside0.mk (below_step (bl HB.out) hb); have n4_ := Aside0.mk (hbox); have n5_ := Aside0.mk ((by rw [hg]; exact (below_size (bl HB.out)) : w.heap.size ≤ gb113)); have n6_ := Aside0.mk ((by rw [hg]; exact (below_size (bl HB.out)) : w.heap.size ≤ gb113)); have n7_ := Aside0.mk ((by rw [hg]; exact Nat.ne_of_lt (blk_lt (kp BK101.out)) : gb101 ≠ gb113)); have n8_ := Aside0.mk ((by rw [hg]; exact Nat.ne_of_gt (blk_lt (kp BK101.out)) : gb113 ≠ gb101)); have n9_ := Aside0.mk ((by rw [hg]; exact Nat.ne_of_lt (blk_lt (kp BK102.out)) : gb102 ≠ gb113)); have n10_ := Aside0.mk ((by rw [hg]; exact Nat.ne_of_gt (blk_lt (kp BK102.out)) : gb113 ≠ gb102)); have n11_ := Aside0.mk ((by rw [hg]; exact Nat.ne_of_lt (blk_lt (kp BK108.out)) : gb108 ≠ gb113)); have n12_ := Aside0.mk ((by rw [hg]; exact Nat.ne_of_gt (blk_lt (kp BK108.out)) : gb113 ≠ gb108)); clear BK101; clear BK102; clear BK108; clear HB; have BK101 := n0_; have BK102 := n1_; have BK108 := n2_; have HB := n3_; have BK113 := n4_; have GW113 := n5_; have GE113 := n6_; have NB101_113 := n7_; have NB113_101 := n8_; have NB102_113 := n9_; have NB113_102 := n10_; have NB108_113 := n11_; have NB113_108 := n12_; clear n0_ n1_ n2_ n3_ n4_ n5_ n6_ n7_ n8_ n9_ n10_ n11_ n12_; clear hb hbox hg; have hnb31 := NB113_101.out; have hnc31 := NB101_113.out; have hnb32 := NB113_102.out; have hnc32 := NB102_113.out; have hnb33 := NB113_108.out; have hnc33 := NB108_113.out; obtain ⟨hcz34_0, hcz34_1, hcz34_2, hcz34_3⟩ := hc4 BK113.out; obtain ⟨hfz34_0, hfz34_1, hfz34_2, hfz34_3⟩ := hf4 BK113.out))
       have n0_ : Aside0 (((((w30.setCell ⟨gb113, 0, none⟩ (.int .i64 t109)).setCell ⟨gb113, 1, none⟩ (.int .i64 t110)).setCell ⟨gb113, 2, none⟩ (.int .i64 t111)).setCell ⟨gb113, 3, none⟩ (.int .i64 t112)).heap[gb101]? = some (.cells #[.int .i64 a0_0, .int .i64 a0_1, .int .i64 a0_2] 23 (0, 0))) := ⟨kp BK101.out⟩
       have n1_ : Aside0 (((((w30.setCell ⟨gb113, 0, none⟩ (.int .i64 t109)).setCell ⟨gb113, 1, none⟩ (.int .i64 t110)).setCell ⟨gb113, 2, none⟩ (.int .i64 t111)).setCell ⟨gb113, 3, none⟩ (.int .i64 t112)).heap[gb102]? = some (.cells #[.int .i64 a1_0, .int .i64 a1_1, .int .i64 a1_2] 24 (0, 0))) := ⟨kp BK102.out⟩
       have n2_ : Aside0 (((((w30.setCell ⟨gb113, 0, none⟩ (.int .i64 t109)).setCell ⟨gb113, 1, none⟩ (.int .i64 t110)).setCell ⟨gb113, 2, none⟩ (.int .i64 t111)).setCell ⟨gb113, 3, none⟩ (.int .i64 t112)).heap[gb108]? = some (.cells #[.int .i64 t104, .int .i64 t105, .int .i64 t106] 24 (0, 0))) := ⟨kp BK108.out⟩
       have n3_ : Aside0 (((((w30.setCell ⟨gb113, 0, none⟩ (.int .i64 t109)).setCell ⟨gb113, 1, none⟩ (.int .i64 t110)).setCell ⟨gb113, 2, none⟩ (.int .i64 t111)).setCell ⟨gb113, 3, none⟩ (.int .i64 t112)).heap[gb113]? = some (.cells #[.int .i64 t109, .int .i64 t110, .int .i64 t111, .int .i64 t112] 30 (0, 0))) := ⟨kp (p4_3 (kp (p4_2 (kp (p4_1 (kp (p4_0 (kp BK113.out))))))))⟩
       have n4_ : Aside0 (Below w.heap.size w ((((w30.setCell ⟨gb113, 0, none⟩ (.int .i64 t109)).setCell ⟨gb113, 1, none⟩ (.int .i64 t110)).setCell ⟨gb113, 2, none⟩ (.int .i64 t111)).setCell ⟨gb113, 3, none⟩ (.int .i64 t112))) := ⟨bl HB.out⟩
       (try clear BK101)
       (try clear BK102)
       (try clear BK108)
       (try clear BK113)
       (try clear HB)
       generalize ((((w30.setCell ⟨gb113, 0, none⟩ (.int .i64 t109)).setCell ⟨gb113, 1, none⟩ (.int .i64 t110)).setCell ⟨gb113, 2, none⟩ (.int .i64 t111)).setCell ⟨gb113, 3, none⟩ (.int .i64 t112)) = w35 at n0_ n1_ n2_ n3_ n4_ ⊢
       have BK101 := n0_
       have BK102 := n1_
       have BK108 := n2_
       have BK113 := n3_
       have HB := n4_
       clear n0_ n1_ n2_ n3_ n4_
       (try (rw [drewN_self w35]; generalize hq_ : World.drewN w35 _ = w35; replace BK101 := Aside0.mk (kq hq_ BK101.out); replace BK102 := Aside0.mk (kq hq_ BK102.out); replace BK108 := Aside0.mk (kq hq_ BK108.out); replace BK113 := Aside0.mk (kq hq_ BK113.out); replace HB := Aside0.mk (bq hq_ HB.out); clear hq_))
       replace BK101 := Aside0.mk (blk_drew BK101.out)
       replace BK102 := Aside0.mk (blk_drew BK102.out)
       replace BK108 := Aside0.mk (blk_drew BK108.out)
       replace BK113 := Aside0.mk (blk_drew BK113.out)
       replace HB := Aside0.mk (below_drew1 HB.out)
       refine start_ (n := 30) (S := fun w' => w'.cell? ⟨gb101, 0, none⟩ = some (.int .i64 a0_0) ∧ w'.cell? ⟨gb101, 1, none⟩ = some (.int .i64 a0_1) ∧ w'.cell? ⟨gb101, 2, none⟩ = some (.int .i64 a0_2) ∧ w'.cell? ⟨gb102, 0, none⟩ = some (.int .i64 a1_0) ∧ w'.cell? ⟨gb102, 1, none⟩ = some (.int .i64 a1_1) ∧ w'.cell? ⟨gb102, 2, none⟩ = some (.int .i64 a1_2) ∧ w'.cell? ⟨gb108, 0, none⟩ = some (.int .i64 t104) ∧ w'.cell? ⟨gb108, 1, none⟩ = some (.int .i64 t105) ∧ w'.cell? ⟨gb108, 2, none⟩ = some (.int .i64 t106) ∧ w'.cell? ⟨gb113, 0, none⟩ = some (.int .i64 t109) ∧ w'.cell? ⟨gb113, 1, none⟩ = some (.int .i64 t110) ∧ w'.cell? ⟨gb113, 2, none⟩ = some (.int .i64 t111) ∧ w'.cell? ⟨gb113, 3, none⟩ = some (.int .i64 t112)) (ds := []) #[false, false, false, false, false, false, false, false, false, false, false, false, false, false, false, false, false, false, false, false, false, false, false, false, false, false, false, false, false, false] (by kernel_rfl) rfl rfl ⟨(blk_cell BK101.out 0).trans rfl, (blk_cell BK101.out 1).trans rfl, (blk_cell BK101.out 2).trans rfl, (blk_cell BK102.out 0).trans rfl, (blk_cell BK102.out 1).trans rfl, (blk_cell BK102.out 2).trans rfl, (blk_cell BK108.out 0).trans rfl, (blk_cell BK108.out 1).trans rfl, (blk_cell BK108.out 2).trans rfl, (blk_cell BK113.out 0).trans rfl, (blk_cell BK113.out 1).trans rfl, (blk_cell BK113.out 2).trans rfl, (blk_cell BK113.out 3).trans rfl⟩ (fun hHeld => ?_); refine with_tabW drachmlaw02_FracTexts.tab6 drachmlaw02_FracTexts.bits6 (fun HT_ HW_ => ?_)
       generalize w35.drew = w36 at BK101 BK102 BK108 BK113 HB hHeld ⊢
       refine pure_ (i := 0) (N := some 24) (v := ?_) (a' := ?_) #[true, false, false, false, false, false, false, false, false, false, false, false, false, false, false, false, false, false, false, false, false, false, false, false, false, false, false, false, false, false] rfl rfl (any_of HT_.out (by kernel_rfl)) (fun _ _ _ h => h) (Or.inl ⟨by rfl, ?_⟩) ?_ ?_
       rotate_left
       ·intro w'
        go_simp
        first | with_reducible rfl | (rw [if_neg (by simp only [ByteArray.size_extract, ByteArray.size_append, eq_iff_iff, iff_true, iff_false] at *; omega)])
       rotate_left
       ·simp only [Act.put, List.setIfInBounds_toArray, List.set_cons_zero, List.set_cons_succ, i64_w, i32_w]
        rfl
       refine pure_ (i := 1) (N := some 25) (v := ?_) (a' := ?_) #[true, true, false, false, false, false, false, false, false, false, false, false, false, false, false, false, false, false, false, false, false, false, false, false, false, false, false, false, false, false] rfl rfl (any_of HT_.out (by kernel_rfl)) (fun _ _ _ h => h) (Or.inl ⟨by rfl, ?_⟩) ?_ ?_
       rotate_left
       ·intro w'
        go_simp
        first | with_reducible rfl | (rw [if_neg (by simp only [ByteArray.size_extract, ByteArray.size_append, eq_iff_iff, iff_true, iff_false] at *; omega)])
       rotate_left
       ·simp only [Act.put, List.setIfInBounds_toArray, List.set_cons_zero, List.set_cons_succ, i64_w, i32_w]
        rfl
       refine take_ (i := 2) (N := some 26) (v := ?_) (a' := ?_) #[true, true, true, false, false, false, false, false, false, false, false, false, false, false, false, false, false, false, false, false, false, false, false, false, false, false, false, false, false, false] rfl rfl (take_ofW HT_.out HW_.out (by kernel_rfl)) (fun _ _ _ h => h) (Or.inl ⟨by rfl, ?_⟩) hHeld ?_ ?_
       rotate_left
       ·rintro w' ⟨s0, s1, s2, s3, s4, s5, s6, s7, s8, s9, s10, s11, s12⟩
        go_simp
        first | with_reducible rfl | (rw [if_neg (by simp only [ByteArray.size_extract, ByteArray.size_append, eq_iff_iff, iff_true, iff_false] at *; omega)])
       rotate_left
       ·simp only [Act.put, List.setIfInBounds_toArray, List.set_cons_zero, List.set_cons_succ, i64_w, i32_w]
        rfl
       refine take_ (i := 5) (N := some 29) (v := ?_) (a' := ?_) #[true, true, true, false, false, true, false, false, false, false, false, false, false, false, false, false, false, false, false, false, false, false, false, false, false, false, false, false, false, false] rfl rfl (take_ofW HT_.out HW_.out (by kernel_rfl)) (fun _ _ _ h => h) (Or.inl ⟨by rfl, ?_⟩) hHeld ?_ ?_
       rotate_left
       ·rintro w' ⟨s0, s1, s2, s3, s4, s5, s6, s7, s8, s9, s10, s11, s12⟩
        go_simp
        first | with_reducible rfl | (rw [if_neg (by simp only [ByteArray.size_extract, ByteArray.size_append, eq_iff_iff, iff_true, iff_false] at *; omega)])
       rotate_left
       ·simp only [Act.put, List.setIfInBounds_toArray, List.set_cons_zero, List.set_cons_succ, i64_w, i32_w]
        rfl
       refine one_ (i := 3) (N := some 27) #[true, true, true, true, false, true, false, false, false, false, false, false, false, false, false, false, false, false, false, false, false, false, false, false, false, false, false, false, false, false] rfl rfl (one_of HT_.out (by kernel_rfl)) (by decide) (fun K hK => ?_)
       refine goes_ Tryd.func15 (by kernel_rfl) rfl #[.agg #[.int .i64 a0_0, .int .i64 a0_1, .int .i64 a0_2]] (by rfl) rfl rfl (by (try simp only [List.map_toArray, List.map_cons, List.map_nil]); first | done | rfl | (simp only [List.length_drop, List.length_take]; rfl)) ?_
       with_reducible refine (drachmlaw02_Spec_frac.calls kj4 a0_0 a0_1 a0_2 t114 t115 t116 _ A15.out).mono ?_
       rintro e w37 ⟨rfl, hb⟩
       refine ⟨_, rfl, ?_⟩
       replace BK101 := Aside0.mk (blk_below (kp BK101.out) hb)
       replace BK102 := Aside0.mk (blk_below (kp BK102.out) hb)
       replace BK108 := Aside0.mk (blk_below (kp BK108.out) hb)
       replace BK113 := Aside0.mk (blk_below (kp BK113.out) hb)
       replace HB := Aside0.mk (below_step (bl HB.out) hb)
       (try clear hb)
       (try clear hb2)
       (try clear hk)
       (try clear hi)
       refine hK.out _ _ ⟨(blk_cell BK101.out 0).trans rfl, (blk_cell BK101.out 1).trans rfl, (blk_cell BK101.out 2).trans rfl, (blk_cell BK102.out 0).trans rfl, (blk_cell BK102.out 1).trans rfl, (blk_cell BK102.out 2).trans rfl, (blk_cell BK108.out 0).trans rfl, (blk_cell BK108.out 1).trans rfl, (blk_cell BK108.out 2).trans rfl, (blk_cell BK113.out 0).trans rfl, (blk_cell BK113.out 1).trans rfl, (blk_cell BK113.out 2).trans rfl, (blk_cell BK113.out 3).trans rfl⟩ (fun hHeld => ?_)
       clear hK K
       refine norm_ (a' := ?_) ?_ ?_
       rotate_left
       ·show Act.put _ (some 27) _ = _
        simp only [Act.put, List.setIfInBounds_toArray, List.set_cons_zero, List.set_cons_succ, i64_w, i32_w]
        rfl
       refine one_ (i := 4) (N := some 28) #[true, true, true, true, true, true, false, false, false, false, false, false, false, false, false, false, false, false, false, false, false, false, false, false, false, false, false, false, false, false] rfl rfl (one_of HT_.out (by kernel_rfl)) (by decide) (fun K hK => ?_)
       refine goes_ Tryd.func22 (by kernel_rfl) rfl #[.agg #[.int .i64 t114, .int .i64 t115, .int .i64 t116]] (by rfl) rfl rfl (by (try simp only [List.map_toArray, List.map_cons, List.map_nil]); first | done | rfl | (simp only [List.length_drop, List.length_take]; rfl)) ?_
       with_reducible refine (frac_Text.calls kj4 t114 t115 t116 t117 _ (Glob.use hG (by decide) (by repeat (first | (with_reducible first | exact HB.out | exact Below.refl _ _ | apply below_alloc | apply pw_below_drewN | apply below_drew1) | exact HB.out | exact Below.refl _ _))) A16.out).mono ?_
       rintro e w38 ⟨rfl, hb⟩
       refine ⟨_, rfl, ?_⟩
       replace BK101 := Aside0.mk (blk_below (kp BK101.out) hb)
       replace BK102 := Aside0.mk (blk_below (kp BK102.out) hb)
       replace BK108 := Aside0.mk (blk_below (kp BK108.out) hb)
       replace BK113 := Aside0.mk (blk_below (kp BK113.out) hb)
       replace HB := Aside0.mk (below_step (bl HB.out) hb)
       (try clear hb)
       (try clear hb2)
       (try clear hk)
       (try clear hi)
       refine hK.out _ _ ⟨(blk_cell BK101.out 0).trans rfl, (blk_cell BK101.out 1).trans rfl, (blk_cell BK101.out 2).trans rfl, (blk_cell BK102.out 0).trans rfl, (blk_cell BK102.out 1).trans rfl, (blk_cell BK102.out 2).trans rfl, (blk_cell BK108.out 0).trans rfl, (blk_cell BK108.out 1).trans rfl, (blk_cell BK108.out 2).trans rfl, (blk_cell BK113.out 0).trans rfl, (blk_cell BK113.out 1).trans rfl, (blk_cell BK113.out 2).trans rfl, (blk_cell BK113.out 3).trans rfl⟩ (fun hHeld => ?_)
       clear hK K
       refine norm_ (a' := ?_) ?_ ?_
       rotate_left
       ·show Act.put _ (some 28) _ = _
        simp only [Act.put, List.setIfInBounds_toArray, List.set_cons_zero, List.set_cons_succ, i64_w, i32_w]
        rfl
       refine one_ (i := 6) (N := some 30) #[true, true, true, true, true, true, true, false, false, false, false, false, false, false, false, false, false, false, false, false, false, false, false, false, false, false, false, false, false, false] rfl rfl (one_of HT_.out (by kernel_rfl)) (by decide) (fun K hK => ?_)
       refine goes_ Tryd.func15 (by kernel_rfl) rfl #[.agg #[.int .i64 a0_0, .int .i64 a0_1, .int .i64 a0_2]] (by rfl) rfl rfl (by (try simp only [List.map_toArray, List.map_cons, List.map_nil]); first | done | rfl | (simp only [List.length_drop, List.length_take]; rfl)) ?_
       with_reducible refine (drachmlaw02_Spec_frac.calls kj4 a0_0 a0_1 a0_2 t118 t119 t120 _ A17.out).mono ?_
       rintro e w39 ⟨rfl, hb⟩
       refine ⟨_, rfl, ?_⟩
       replace BK101 := Aside0.mk (blk_below (kp BK101.out) hb)
       replace BK102 := Aside0.mk (blk_below (kp BK102.out) hb)
       replace BK108 := Aside0.mk (blk_below (kp BK108.out) hb)
       replace BK113 := Aside0.mk (blk_below (kp BK113.out) hb)
       replace HB := Aside0.mk (below_step (bl HB.out) hb)
       (try clear hb)
       (try clear hb2)
       (try clear hk)
       (try clear hi)
       refine hK.out _ _ ⟨(blk_cell BK101.out 0).trans rfl, (blk_cell BK101.out 1).trans rfl, (blk_cell BK101.out 2).trans rfl, (blk_cell BK102.out 0).trans rfl, (blk_cell BK102.out 1).trans rfl, (blk_cell BK102.out 2).trans rfl, (blk_cell BK108.out 0).trans rfl, (blk_cell BK108.out 1).trans rfl, (blk_cell BK108.out 2).trans rfl, (blk_cell BK113.out 0).trans rfl, (blk_cell BK113.out 1).trans rfl, (blk_cell BK113.out 2).trans rfl, (blk_cell BK113.out 3).trans rfl⟩ (fun hHeld => ?_)
       clear hK K
       refine norm_ (a' := ?_) ?_ ?_
       rotate_left
       ·show Act.put _ (some 30) _ = _
        simp only [Act.put, List.setIfInBounds_toArray, List.set_cons_zero, List.set_cons_succ, i64_w, i32_w]
        rfl
       refine one_ (i := 7) (N := some 31) #[true, true, true, true, true, true, true, true, false, false, false, false, false, false, false, false, false, false, false, false, false, false, false, false, false, false, false, false, false, false] rfl rfl (one_of HT_.out (by kernel_rfl)) (by decide) (fun K hK => ?_)
       refine goes_ Tryd.func23 (by kernel_rfl) rfl #[.agg #[.int .i64 t118, .int .i64 t119, .int .i64 t120]] (by rfl) rfl rfl (by (try simp only [List.map_toArray, List.map_cons, List.map_nil]); first | done | rfl | (simp only [List.length_drop, List.length_take]; rfl)) ?_
       with_reducible refine (drachmref02_Text.calls kj4 t118 t119 t120 t121 _ A18.out).mono ?_
       rintro e w40 ⟨rfl, hb⟩
       refine ⟨_, rfl, ?_⟩
       replace BK101 := Aside0.mk (blk_below (kp BK101.out) hb)
       replace BK102 := Aside0.mk (blk_below (kp BK102.out) hb)
       replace BK108 := Aside0.mk (blk_below (kp BK108.out) hb)
       replace BK113 := Aside0.mk (blk_below (kp BK113.out) hb)
       replace HB := Aside0.mk (below_step (bl HB.out) hb)
       (try clear hb)
       (try clear hb2)
       (try clear hk)
       (try clear hi)
       refine hK.out _ _ ⟨(blk_cell BK101.out 0).trans rfl, (blk_cell BK101.out 1).trans rfl, (blk_cell BK101.out 2).trans rfl, (blk_cell BK102.out 0).trans rfl, (blk_cell BK102.out 1).trans rfl, (blk_cell BK102.out 2).trans rfl, (blk_cell BK108.out 0).trans rfl, (blk_cell BK108.out 1).trans rfl, (blk_cell BK108.out 2).trans rfl, (blk_cell BK113.out 0).trans rfl, (blk_cell BK113.out 1).trans rfl, (blk_cell BK113.out 2).trans rfl, (blk_cell BK113.out 3).trans rfl⟩ (fun hHeld => ?_)
       clear hK K
       refine norm_ (a' := ?_) ?_ ?_
       rotate_left
       ·show Act.put _ (some 31) _ = _
        simp only [Act.put, List.setIfInBounds_toArray, List.set_cons_zero, List.set_cons_succ, i64_w, i32_w]
        rfl
       refine pure_ (i := 8) (N := some 32) (v := ?_) (a' := ?_) #[true, true, true, true, true, true, true, true, true, false, false, false, false, false, false, false, false, false, false, false, false, false, false, false, false, false, false, false, false, false] rfl rfl (any_of HT_.out (by kernel_rfl)) (fun _ _ _ h => h) (Or.inl ⟨by rfl, ?_⟩) ?_ ?_
       rotate_left
       ·intro w'
        go_simp
        first | with_reducible rfl | (rw [if_neg (by simp only [ByteArray.size_extract, ByteArray.size_append, eq_iff_iff, iff_true, iff_false] at *; omega)])
       rotate_left
       ·simp only [Act.put, List.setIfInBounds_toArray, List.set_cons_zero, List.set_cons_succ, i64_w, i32_w]
        rfl
       refine pure_ (i := 9) (N := some 33) (v := ?_) (a' := ?_) #[true, true, true, true, true, true, true, true, true, true, false, false, false, false, false, false, false, false, false, false, false, false, false, false, false, false, false, false, false, false] rfl rfl (any_of HT_.out (by kernel_rfl)) (fun _ _ _ h => h) (Or.inl ⟨by rfl, ?_⟩) ?_ ?_
       rotate_left
       ·intro w'
        go_simp
        first | with_reducible rfl | (rw [if_neg (by simp only [ByteArray.size_extract, ByteArray.size_append, eq_iff_iff, iff_true, iff_false] at *; omega)])
       rotate_left
       ·simp only [Act.put, List.setIfInBounds_toArray, List.set_cons_zero, List.set_cons_succ, i64_w, i32_w]
        rfl
       refine pure_ (i := 10) (N := some 34) (v := ?_) (a' := ?_) #[true, true, true, true, true, true, true, true, true, true, true, false, false, false, false, false, false, false, false, false, false, false, false, false, false, false, false, false, false, false] rfl rfl (any_of HT_.out (by kernel_rfl)) (fun _ _ _ h => h) (Or.inl ⟨by rfl, ?_⟩) ?_ ?_
       rotate_left
       ·intro w'
        go_simp
        first | with_reducible rfl | (rw [if_neg (by simp only [ByteArray.size_extract, ByteArray.size_append, eq_iff_iff, iff_true, iff_false] at *; omega)])
       rotate_left
       ·simp only [Act.put, List.setIfInBounds_toArray, List.set_cons_zero, List.set_cons_succ, i64_w, i32_w]
        rfl
       refine take_ (i := 11) (N := some 35) (v := ?_) (a' := ?_) #[true, true, true, true, true, true, true, true, true, true, true, true, false, false, false, false, false, false, false, false, false, false, false, false, false, false, false, false, false, false] rfl rfl (take_ofW HT_.out HW_.out (by kernel_rfl)) (fun _ _ _ h => h) (Or.inl ⟨by rfl, ?_⟩) hHeld ?_ ?_
       rotate_left
       ·rintro w' ⟨s0, s1, s2, s3, s4, s5, s6, s7, s8, s9, s10, s11, s12⟩
        go_simp
        first | with_reducible rfl | (rw [if_neg (by simp only [ByteArray.size_extract, ByteArray.size_append, eq_iff_iff, iff_true, iff_false] at *; omega)])
       rotate_left
       ·simp only [Act.put, List.setIfInBounds_toArray, List.set_cons_zero, List.set_cons_succ, i64_w, i32_w]
        rfl
       refine take_ (i := 13) (N := some 37) (v := ?_) (a' := ?_) #[true, true, true, true, true, true, true, true, true, true, true, true, false, true, false, false, false, false, false, false, false, false, false, false, false, false, false, false, false, false] rfl rfl (take_ofW HT_.out HW_.out (by kernel_rfl)) (fun _ _ _ h => h) (Or.inl ⟨by rfl, ?_⟩) hHeld ?_ ?_
       rotate_left
       ·rintro w' ⟨s0, s1, s2, s3, s4, s5, s6, s7, s8, s9, s10, s11, s12⟩
        go_simp
        first | with_reducible rfl | (rw [if_neg (by simp only [ByteArray.size_extract, ByteArray.size_append, eq_iff_iff, iff_true, iff_false] at *; omega)])
       rotate_left
       ·simp only [Act.put, List.setIfInBounds_toArray, List.set_cons_zero, List.set_cons_succ, i64_w, i32_w]
        rfl
       refine one_ (i := 12) (N := some 36) #[true, true, true, true, true, true, true, true, true, true, true, true, true, true, false, false, false, false, false, false, false, false, false, false, false, false, false, false, false, false] rfl rfl (one_of HT_.out (by kernel_rfl)) (by decide) (fun K hK => ?_)
       refine goes_ Tryd.func22 (by kernel_rfl) rfl #[.agg #[.int .i64 a1_0, .int .i64 a1_1, .int .i64 a1_2]] (by rfl) rfl rfl (by (try simp only [List.map_toArray, List.map_cons, List.map_nil]); first | done | rfl | (simp only [List.length_drop, List.length_take]; rfl)) ?_
       with_reducible refine (frac_Text.calls kj4 a1_0 a1_1 a1_2 t122 _ (Glob.use hG (by decide) (by repeat (first | (with_reducible first | exact HB.out | exact Below.refl _ _ | apply below_alloc | apply pw_below_drewN | apply below_drew1) | exact HB.out | exact Below.refl _ _))) A20.out).mono ?_
       rintro e w41 ⟨rfl, hb⟩
       refine ⟨_, rfl, ?_⟩
       replace BK101 := Aside0.mk (blk_below (kp BK101.out) hb)
       replace BK102 := Aside0.mk (blk_below (kp BK102.out) hb)
       replace BK108 := Aside0.mk (blk_below (kp BK108.out) hb)
       replace BK113 := Aside0.mk (blk_below (kp BK113.out) hb)
       replace HB := Aside0.mk (below_step (bl HB.out) hb)
       (try clear hb)
       (try clear hb2)
       (try clear hk)
       (try clear hi)
       refine hK.out _ _ ⟨(blk_cell BK101.out 0).trans rfl, (blk_cell BK101.out 1).trans rfl, (blk_cell BK101.out 2).trans rfl, (blk_cell BK102.out 0).trans rfl, (blk_cell BK102.out 1).trans rfl, (blk_cell BK102.out 2).trans rfl, (blk_cell BK108.out 0).trans rfl, (blk_cell BK108.out 1).trans rfl, (blk_cell BK108.out 2).trans rfl, (blk_cell BK113.out 0).trans rfl, (blk_cell BK113.out 1).trans rfl, (blk_cell BK113.out 2).trans rfl, (blk_cell BK113.out 3).trans rfl⟩ (fun hHeld => ?_)
       clear hK K
       refine norm_ (a' := ?_) ?_ ?_
       rotate_left
       ·show Act.put _ (some 36) _ = _
        simp only [Act.put, List.setIfInBounds_toArray, List.set_cons_zero, List.set_cons_succ, i64_w, i32_w]
        rfl
       refine one_ (i := 14) (N := some 38) #[true, true, true, true, true, true, true, true, true, true, true, true, true, true, true, false, false, false, false, false, false, false, false, false, false, false, false, false, false, false] rfl rfl (one_of HT_.out (by kernel_rfl)) (by decide) (fun K hK => ?_)
       refine goes_ Tryd.func23 (by kernel_rfl) rfl #[.agg #[.int .i64 a1_0, .int .i64 a1_1, .int .i64 a1_2]] (by rfl) rfl rfl (by (try simp only [List.map_toArray, List.map_cons, List.map_nil]); first | done | rfl | (simp only [List.length_drop, List.length_take]; rfl)) ?_
       with_reducible refine (drachmref02_Text.calls kj4 a1_0 a1_1 a1_2 t123 _ A21.out).mono ?_
       rintro e w42 ⟨rfl, hb⟩
       refine ⟨_, rfl, ?_⟩
       replace BK101 := Aside0.mk (blk_below (kp BK101.out) hb)
       replace BK102 := Aside0.mk (blk_below (kp BK102.out) hb)
       replace BK108 := Aside0.mk (blk_below (kp BK108.out) hb)
       replace BK113 := Aside0.mk (blk_below (kp BK113.out) hb)
       replace HB := Aside0.mk (below_step (bl HB.out) hb)
       (try clear hb)
       (try clear hb2)
       (try clear hk)
       (try clear hi)
       refine hK.out _ _ ⟨(blk_cell BK101.out 0).trans rfl, (blk_cell BK101.out 1).trans rfl, (blk_cell BK101.out 2).trans rfl, (blk_cell BK102.out 0).trans rfl, (blk_cell BK102.out 1).trans rfl, (blk_cell BK102.out 2).trans rfl, (blk_cell BK108.out 0).trans rfl, (blk_cell BK108.out 1).trans rfl, (blk_cell BK108.out 2).trans rfl, (blk_cell BK113.out 0).trans rfl, (blk_cell BK113.out 1).trans rfl, (blk_cell BK113.out 2).trans rfl, (blk_cell BK113.out 3).trans rfl⟩ (fun hHeld => ?_)
       clear hK K
       refine norm_ (a' := ?_) ?_ ?_
       rotate_left
       ·show Act.put _ (some 38) _ = _
        simp only [Act.put, List.setIfInBounds_toArray, List.set_cons_zero, List.set_cons_succ, i64_w, i32_w]
        rfl
       refine pure_ (i := 15) (N := some 39) (v := ?_) (a' := ?_) #[true, true, true, true, true, true, true, true, true, true, true, true, true, true, true, true, false, false, false, false, false, false, false, false, false, false, false, false, false, false] rfl rfl (any_of HT_.out (by kernel_rfl)) (fun _ _ _ h => h) (Or.inl ⟨by rfl, ?_⟩) ?_ ?_
       rotate_left
       ·intro w'
        go_simp
        first | with_reducible rfl | (rw [if_neg (by simp only [ByteArray.size_extract, ByteArray.size_append, eq_iff_iff, iff_true, iff_false] at *; omega)])
       rotate_left
       ·simp only [Act.put, List.setIfInBounds_toArray, List.set_cons_zero, List.set_cons_succ, i64_w, i32_w]
        rfl
       refine pure_ (i := 16) (N := some 40) (v := ?_) (a' := ?_) #[true, true, true, true, true, true, true, true, true, true, true, true, true, true, true, true, true, false, false, false, false, false, false, false, false, false, false, false, false, false] rfl rfl (any_of HT_.out (by kernel_rfl)) (fun _ _ _ h => h) (Or.inl ⟨by rfl, ?_⟩) ?_ ?_
       rotate_left
       ·intro w'
        go_simp
        first | with_reducible rfl | (rw [if_neg (by simp only [ByteArray.size_extract, ByteArray.size_append, eq_iff_iff, iff_true, iff_false] at *; omega)])
       rotate_left
       ·simp only [Act.put, List.setIfInBounds_toArray, List.set_cons_zero, List.set_cons_succ, i64_w, i32_w]
        rfl
       refine pure_ (i := 17) (N := some 41) (v := ?_) (a' := ?_) #[true, true, true, true, true, true, true, true, true, true, true, true, true, true, true, true, true, true, false, false, false, false, false, false, false, false, false, false, false, false] rfl rfl (any_of HT_.out (by kernel_rfl)) (fun _ _ _ h => h) (Or.inl ⟨by rfl, ?_⟩) ?_ ?_
       rotate_left
       ·intro w'
        go_simp
        first | with_reducible rfl | (rw [if_neg (by simp only [ByteArray.size_extract, ByteArray.size_append, eq_iff_iff, iff_true, iff_false] at *; omega)])
       rotate_left
       ·simp only [Act.put, List.setIfInBounds_toArray, List.set_cons_zero, List.set_cons_succ, i64_w, i32_w]
        rfl
       refine pure_ (i := 19) (N := some 43) (v := ?_) (a' := ?_) #[true, true, true, true, true, true, true, true, true, true, true, true, true, true, true, true, true, true, false, true, false, false, false, false, false, false, false, false, false, false] rfl rfl (any_of HT_.out (by kernel_rfl)) (fun _ _ _ h => h) (Or.inl ⟨by rfl, ?_⟩) ?_ ?_
       rotate_left
       ·intro w'
        go_simp
        first | with_reducible rfl | (rw [if_neg (by simp only [ByteArray.size_extract, ByteArray.size_append, eq_iff_iff, iff_true, iff_false] at *; omega)])
       rotate_left
       ·simp only [Act.put, List.setIfInBounds_toArray, List.set_cons_zero, List.set_cons_succ, i64_w, i32_w]
        rfl
       refine take_ (i := 18) (N := some 42) (v := ?_) (a' := ?_) #[true, true, true, true, true, true, true, true, true, true, true, true, true, true, true, true, true, true, true, true, false, false, false, false, false, false, false, false, false, false] rfl rfl (take_ofW HT_.out HW_.out (by kernel_rfl)) (fun _ _ _ h => h) (Or.inl ⟨by rfl, ?_⟩) hHeld ?_ ?_
       rotate_left
       ·rintro w' ⟨s0, s1, s2, s3, s4, s5, s6, s7, s8, s9, s10, s11, s12⟩
        go_simp
        first | with_reducible rfl | (rw [if_neg (by simp only [ByteArray.size_extract, ByteArray.size_append, eq_iff_iff, iff_true, iff_false] at *; omega)])
       rotate_left
       ·simp only [Act.put, List.setIfInBounds_toArray, List.set_cons_zero, List.set_cons_succ, i64_w, i32_w]
        rfl
       refine take_ (i := 20) (N := some 44) (v := ?_) (a' := ?_) #[true, true, true, true, true, true, true, true, true, true, true, true, true, true, true, true, true, true, true, true, true, false, false, false, false, false, false, false, false, false] rfl rfl (take_ofW HT_.out HW_.out (by kernel_rfl)) (fun _ _ _ h => h) (Or.inl ⟨by rfl, ?_⟩) hHeld ?_ ?_
       rotate_left
       ·rintro w' ⟨s0, s1, s2, s3, s4, s5, s6, s7, s8, s9, s10, s11, s12⟩
        go_simp
        first | with_reducible rfl | (rw [if_neg (by simp only [ByteArray.size_extract, ByteArray.size_append, eq_iff_iff, iff_true, iff_false] at *; omega)])
       rotate_left
       ·simp only [Act.put, List.setIfInBounds_toArray, List.set_cons_zero, List.set_cons_succ, i64_w, i32_w]
        rfl
       refine pure_ (i := 21) (N := some 45) (v := ?_) (a' := ?_) #[true, true, true, true, true, true, true, true, true, true, true, true, true, true, true, true, true, true, true, true, true, true, false, false, false, false, false, false, false, false] rfl rfl (any_of HT_.out (by kernel_rfl)) (fun _ _ _ h => h) (Or.inl ⟨by rfl, ?_⟩) ?_ ?_
       rotate_left
       ·intro w'
        go_simp
        first | with_reducible rfl | (rw [if_neg (by simp only [ByteArray.size_extract, ByteArray.size_append, eq_iff_iff, iff_true, iff_false] at *; omega)])
       rotate_left
       ·simp only [Act.put, List.setIfInBounds_toArray, List.set_cons_zero, List.set_cons_succ, i64_w, i32_w]
        rfl
       refine pure_ (i := 22) (N := some 46) (v := ?_) (a' := ?_) #[true, true, true, true, true, true, true, true, true, true, true, true, true, true, true, true, true, true, true, true, true, true, true, false, false, false, false, false, false, false] rfl rfl (any_of HT_.out (by kernel_rfl)) (fun _ _ _ h => h) (Or.inl ⟨by rfl, ?_⟩) ?_ ?_
       rotate_left
       ·intro w'
        go_simp
        first | with_reducible rfl | (rw [if_neg (by simp only [ByteArray.size_extract, ByteArray.size_append, eq_iff_iff, iff_true, iff_false] at *; omega)])
       rotate_left
       ·simp only [Act.put, List.setIfInBounds_toArray, List.set_cons_zero, List.set_cons_succ, i64_w, i32_w]
        rfl
       refine pure_ (i := 23) (N := some 47) (v := ?_) (a' := ?_) #[true, true, true, true, true, true, true, true, true, true, true, true, true, true, true, true, true, true, true, true, true, true, true, true, false, false, false, false, false, false] rfl rfl (any_of HT_.out (by kernel_rfl)) (fun _ _ _ h => h) (Or.inl ⟨by rfl, ?_⟩) ?_ ?_
       rotate_left
       ·intro w'
        go_simp
        first | with_reducible rfl | (rw [if_neg (by simp only [ByteArray.size_extract, ByteArray.size_append, eq_iff_iff, iff_true, iff_false] at *; omega)])
       rotate_left
       ·simp only [Act.put, List.setIfInBounds_toArray, List.set_cons_zero, List.set_cons_succ, i64_w, i32_w]
        rfl
       refine pure_ (i := 24) (N := some 48) (v := ?_) (a' := ?_) #[true, true, true, true, true, true, true, true, true, true, true, true, true, true, true, true, true, true, true, true, true, true, true, true, true, false, false, false, false, false] rfl rfl (any_of HT_.out (by kernel_rfl)) (fun _ _ _ h => h) (Or.inl ⟨by rfl, ?_⟩) ?_ ?_
       rotate_left
       ·intro w'
        go_simp
        first | with_reducible rfl | (rw [if_neg (by simp only [ByteArray.size_extract, ByteArray.size_append, eq_iff_iff, iff_true, iff_false] at *; omega)])
       rotate_left
       ·simp only [Act.put, List.setIfInBounds_toArray, List.set_cons_zero, List.set_cons_succ, i64_w, i32_w]
        rfl
       refine pure_ (i := 25) (N := some 49) (v := ?_) (a' := ?_) #[true, true, true, true, true, true, true, true, true, true, true, true, true, true, true, true, true, true, true, true, true, true, true, true, true, true, false, false, false, false] rfl rfl (any_of HT_.out (by kernel_rfl)) (fun _ _ _ h => h) (Or.inl ⟨by rfl, ?_⟩) ?_ ?_
       rotate_left
       ·intro w'
        go_simp
        first | with_reducible rfl | (rw [if_neg (by simp only [ByteArray.size_extract, ByteArray.size_append, eq_iff_iff, iff_true, iff_false] at *; omega)])
       rotate_left
       ·simp only [Act.put, List.setIfInBounds_toArray, List.set_cons_zero, List.set_cons_succ, i64_w, i32_w]
        rfl
       refine take_ (i := 26) (N := some 50) (v := ?_) (a' := ?_) #[true, true, true, true, true, true, true, true, true, true, true, true, true, true, true, true, true, true, true, true, true, true, true, true, true, true, true, false, false, false] rfl rfl (take_ofW HT_.out HW_.out (by kernel_rfl)) (fun _ _ _ h => h) (Or.inl ⟨by rfl, ?_⟩) hHeld ?_ ?_
       rotate_left
       ·rintro w' ⟨s0, s1, s2, s3, s4, s5, s6, s7, s8, s9, s10, s11, s12⟩
        go_simp
        first | with_reducible rfl | (rw [if_neg (by simp only [ByteArray.size_extract, ByteArray.size_append, eq_iff_iff, iff_true, iff_false] at *; omega)])
       rotate_left
       ·simp only [Act.put, List.setIfInBounds_toArray, List.set_cons_zero, List.set_cons_succ, i64_w, i32_w]
        rfl
       refine pure_ (i := 27) (N := some 51) (v := ?_) (a' := ?_) #[true, true, true, true, true, true, true, true, true, true, true, true, true, true, true, true, true, true, true, true, true, true, true, true, true, true, true, true, false, false] rfl rfl (any_of HT_.out (by kernel_rfl)) (fun _ _ _ h => h) (Or.inl ⟨by rfl, ?_⟩) ?_ ?_
       rotate_left
       ·intro w'
        go_simp
        first | with_reducible rfl | (rw [if_neg (by simp only [ByteArray.size_extract, ByteArray.size_append, eq_iff_iff, iff_true, iff_false] at *; omega)])
       rotate_left
       ·simp only [Act.put, List.setIfInBounds_toArray, List.set_cons_zero, List.set_cons_succ, i64_w, i32_w]
        rfl
       refine pure_ (i := 28) (N := some 52) (v := ?_) (a' := ?_) #[true, true, true, true, true, true, true, true, true, true, true, true, true, true, true, true, true, true, true, true, true, true, true, true, true, true, true, true, true, false] rfl rfl (any_of HT_.out (by kernel_rfl)) (fun _ _ _ h => h) (Or.inl ⟨by rfl, ?_⟩) ?_ ?_
       rotate_left
       ·intro w'
        go_simp
        first | with_reducible rfl | (rw [if_neg (by simp only [ByteArray.size_extract, ByteArray.size_append, eq_iff_iff, iff_true, iff_false] at *; omega)])
       rotate_left
       ·simp only [Act.put, List.setIfInBounds_toArray, List.set_cons_zero, List.set_cons_succ, i64_w, i32_w]
        rfl
       refine pure_ (i := 29) (N := some 6) (v := ?_) (a' := ?_) #[true, true, true, true, true, true, true, true, true, true, true, true, true, true, true, true, true, true, true, true, true, true, true, true, true, true, true, true, true, true] rfl rfl (any_of HT_.out (by kernel_rfl)) (fun _ _ _ h => h) (Or.inl ⟨by rfl, ?_⟩) ?_ ?_
       rotate_left
       ·intro w'
        go_simp
        first | with_reducible rfl | (rw [if_neg (by simp only [ByteArray.size_extract, ByteArray.size_append, eq_iff_iff, iff_true, iff_false] at *; omega)])
       rotate_left
       ·simp only [Act.put, List.setIfInBounds_toArray, List.set_cons_zero, List.set_cons_succ, i64_w, i32_w]
        rfl
       refine done_ (done_of HT_.out (by kernel_rfl)) ?_
       try go_wp2
       go_ret
       exact ⟨by first | rfl | (simp [errW_none, errW_some] <;> rfl) | (simp [*, errW_none, errW_some] <;> rfl), bl HB.out⟩
      ·rw [if_neg c23] at H
       exact absurd H (by simp)
     ·rw [if_neg c22] at H
      exact absurd H (by simp)
    ·rw [if_neg c19] at H
     exact absurd H (by simp)
   ·replace c14 := Bool.eq_false_iff.mpr c14
    subst c14
    have H1 : (none) = some r := by rw [if_neg (show ¬ (false = true) by decide)] at H; exact H
    clear H
    have H := H1
    clear H1
    exact absurd H (by simp)

/-- THE ONE PURE STATEMENT of drachmlaw02_FracTexts: yours. -/
def drachmlaw02_FracTexts.Pure : Prop := ∀ (a0_0 : Int) (a0_1 : Int) (a0_2 : Int) (a1_0 : Int) (a1_1 : Int) (a1_2 : Int) (a2 : ByteArray), (Lit.int .i64 a0_0).wf = true → (Lit.int .i64 a0_1).wf = true → (Lit.int .i64 a0_2).wf = true → (Lit.int .i64 a1_0).wf = true → (Lit.int .i64 a1_1).wf = true → (Lit.int .i64 a1_2).wf = true → a2.size ≤ 140737488351232 → ∃ k, drachmlaw02_FracTexts.f k a0_0 a0_1 a0_2 a1_0 a1_1 a1_2 a2 = some true
theorem drachmlaw02_FracTexts.walk (P : drachmlaw02_FracTexts.Pure) (a0_0 : Int) (a0_1 : Int) (a0_2 : Int) (a1_0 : Int) (a1_1 : Int) (a1_2 : Int) (a2 : ByteArray) (w : World) (hG : Glob [1, 3, 4, 5] w) (w0_0 : (Lit.int .i64 a0_0).wf = true) (w0_1 : (Lit.int .i64 a0_1).wf = true) (w0_2 : (Lit.int .i64 a0_2).wf = true) (w1_0 : (Lit.int .i64 a1_0).wf = true) (w1_1 : (Lit.int .i64 a1_1).wf = true) (w1_2 : (Lit.int .i64 a1_2).wf = true) (w2 : a2.size ≤ 140737488351232) :
  Calls Tryd.prog 8 #[.agg #[.int .i64 a0_0, .int .i64 a0_1, .int .i64 a0_2], .agg #[.int .i64 a1_0, .int .i64 a1_1, .int .i64 a1_2], .string a2] w fun e w' => e = .returned (.bool true) ∧ Below w.heap.size w w' := by
 obtain ⟨k, h⟩ := P a0_0 a0_1 a0_2 a1_0 a1_1 a1_2 a2 w0_0 w0_1 w0_2 w1_0 w1_1 w1_2 w2
 refine (drachmlaw02_FracTexts.calls k a0_0 a0_1 a0_2 a1_0 a1_1 a1_2 a2 true w hG h).mono ?_
 rintro e w' ⟨rfl, hd⟩
 exact ⟨rfl, hd⟩

end Go.Proofs.YtnndaackjgnhhaaDoor.PFracTexts
