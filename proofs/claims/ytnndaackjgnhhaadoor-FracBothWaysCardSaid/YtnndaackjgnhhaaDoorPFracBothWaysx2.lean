/- Printed by a program of this session (wip/tools/prt.py) out of the translation: plain functions, and that the calls come to just them. No conditions beyond those that stand in each theorem. -/
import Derived.Test.YtnndaackjgnhhaaDoorGlob
import Derived.Test.YtnndaackjgnhhaaDoorPFracBothWaysx0
import Derived.Test.YtnndaackjgnhhaaDoorPFracBothWaysx1
namespace Go.Proofs.YtnndaackjgnhhaaDoor.PFracBothWays
open Go.Proofs.YtnndaackjgnhhaaDoor.Sq Go.RowKit Go.Proofs.YtnndaackjgnhhaaDoorW.PrintWords Go.Proofs.YtnndaackjgnhhaaDoorW.PrintLast Go.Proofs.YtnndaackjgnhhaaDoorW.PrintMore Go.Proofs.YtnndaackjgnhhaaDoor.PB Go.Proofs.YtnndaackjgnhhaaDoor.PC Go.Proofs.YtnndaackjgnhhaaDoor.PD Go.Proofs.YtnndaackjgnhhaaDoor.PE Go.Proofs.YtnndaackjgnhhaaDoor.PT
attribute [local go_sem] max2_int min2_int max_two min_two max_three min_three max_four min_four   -- for this text's walks alone
set_option linter.unusedVariables false
set_option linter.unusedSimpArgs false

attribute [local go_sem high] eqA24
/-! ### drachmlaw02_both: function 24 -/
mutual
def drachmlaw02_both.j0 : Nat → ByteArray → Int → Int → Bool → ByteArray → Bool → Option (Bool)
 | 0, _, _, _, _, _, _ => none
 | k + 1, x1, x2, x3, x9, x10, x38 => if x38 = true then (none) else (if (x10.size : Int) = 0 then (none) else (if 0 ≤ (Int.tmod (wrap64 ((Int.tmod x2 (x10.size : Int)) + (x10.size : Int))) (x10.size : Int)) then (if (Int.tmod (wrap64 ((Int.tmod x2 (x10.size : Int)) + (x10.size : Int))) (x10.size : Int)) ≤ (x10.size : Int) then ((some (([x3] : List Int) : List Int)).bind fun y109 => (if (x10.extract 0 ((Int.tmod (wrap64 ((Int.tmod x2 (x10.size : Int)) + (x10.size : Int))) (x10.size : Int)) : Int).toNat).size + (strOfNums y109).size ≤ 9223372036854775807 then (if 0 ≤ (wrap64 ((Int.tmod (wrap64 ((Int.tmod x2 (x10.size : Int)) + (x10.size : Int))) (x10.size : Int)) + 1)) then (if (wrap64 ((Int.tmod (wrap64 ((Int.tmod x2 (x10.size : Int)) + (x10.size : Int))) (x10.size : Int)) + 1)) ≤ (x10.size : Int) then (if ((x10.extract 0 ((Int.tmod (wrap64 ((Int.tmod x2 (x10.size : Int)) + (x10.size : Int))) (x10.size : Int)) : Int).toNat) ++ (strOfNums y109)).size + (x10.extract ((wrap64 ((Int.tmod (wrap64 ((Int.tmod x2 (x10.size : Int)) + (x10.size : Int))) (x10.size : Int)) + 1)) : Int).toNat x10.size).size ≤ 9223372036854775807 then (if (x1.size : Int) > 60 then (if 0 ≤ 60 then (if 60 ≤ (x1.size : Int) then (drachmlaw02_both.j1 k (x1.extract 0 60) x9 (((x10.extract 0 ((Int.tmod (wrap64 ((Int.tmod x2 (x10.size : Int)) + (x10.size : Int))) (x10.size : Int)) : Int).toNat) ++ (strOfNums y109)) ++ (x10.extract ((wrap64 ((Int.tmod (wrap64 ((Int.tmod x2 (x10.size : Int)) + (x10.size : Int))) (x10.size : Int)) + 1)) : Int).toNat x10.size))) else (none)) else (none)) else (drachmlaw02_both.j1 k x1 x9 (((x10.extract 0 ((Int.tmod (wrap64 ((Int.tmod x2 (x10.size : Int)) + (x10.size : Int))) (x10.size : Int)) : Int).toNat) ++ (strOfNums y109)) ++ (x10.extract ((wrap64 ((Int.tmod (wrap64 ((Int.tmod x2 (x10.size : Int)) + (x10.size : Int))) (x10.size : Int)) + 1)) : Int).toNat x10.size)))) else (none)) else (none)) else (none)) else (none))) else (none)) else (none)))
def drachmlaw02_both.j1 : Nat → ByteArray → Bool → ByteArray → Option (Bool)
 | 0, _, _, _ => none
 | k + 1, x1, x9, x14 => (frac_Read.f k x14).bind fun bt112 => ((frac_Read.f k x1).bind fun bt117 => (if x9 = true then (if bt112.2.2.2 = 0 then ((frac_Text.f k bt112.1 bt112.2.1 bt112.2.2.1).bind fun t122 => (if t122.toList = x14.toList then ((frac_Right.f k bt112.1 bt112.2.1 bt112.2.2.1).bind fun t123 => (if t123 = true then (if bt117.2.2.2 = 0 then ((frac_Text.f k bt117.1 bt117.2.1 bt117.2.2.1).bind fun t124 => (some (t124.toList == x1.toList))) else (some true)) else (none))) else (none))) else (if bt117.2.2.2 = 0 then ((frac_Text.f k bt117.1 bt117.2.1 bt117.2.2.1).bind fun t125 => (some (t125.toList == x1.toList))) else (some true))) else (none)))
end
def drachmlaw02_both.f (k : Nat) (a0_0 : Int) (a0_1 : Int) (a0_2 : Int) (a1 : ByteArray) (a2 : Int) (a3 : Int) : Option (Bool) := (drachmlaw02_awake.f k).bind fun t102 => ((frac_Text.f k a0_0 a0_1 a0_2).bind fun t103 => ((frac_Read.f k t103).bind fun bt104 => (if bt104.2.2.2 = 0 then (if (!(a0_0 == bt104.1) || (!(a0_1 == bt104.2.1) || (!(a0_2 == bt104.2.2.1)))) = true then (drachmlaw02_both.j0 k a1 a2 a3 t102 t103 true) else (drachmlaw02_both.j0 k a1 a2 a3 t102 t103 ((t103.size : Int) == 0))) else (drachmlaw02_both.j0 k a1 a2 a3 t102 t103 true))))
theorem drachmlaw02_both.mono_l : ∀ k, (∀ y0 y1 y2 y3 y4 y5, LeO (drachmlaw02_both.j0 k y0 y1 y2 y3 y4 y5) (drachmlaw02_both.j0 (k + 1) y0 y1 y2 y3 y4 y5)) ∧ (∀ y0 y1 y2, LeO (drachmlaw02_both.j1 k y0 y1 y2) (drachmlaw02_both.j1 (k + 1) y0 y1 y2))
 | 0 => ⟨fun _ _ _ _ _ _ r h => by simp [drachmlaw02_both.j0] at h, fun _ _ _ r h => by simp [drachmlaw02_both.j1] at h⟩
 | k + 1 => by
  obtain ⟨ih0, ih1⟩ := drachmlaw02_both.mono_l k
  refine ⟨?_, ?_⟩
  ·intro y0 y1 y2 y3 y4 y5
   unfold drachmlaw02_both.j0
   repeat' first
   | (with_reducible exact ih0 _ _ _ _ _ _)
   | (with_reducible exact ih1 _ _ _)
   | (with_reducible exact drachmlaw02_awake.mono _)
   | (with_reducible exact frac_Read.mono _ _)
   | (with_reducible exact frac_Right.mono _ _ _ _)
   | (with_reducible exact frac_Text.mono _ _ _ _)
   | (with_reducible exact LeO.refl _)
   | (with_reducible exact LeO.none _)
   | (with_reducible refine LeO.ite ?_ ?_)
   | (with_reducible refine LeO.bind ?_ (fun _ => ?_))
   | exact ih0 _ _ _ _ _ _
   | exact ih1 _ _ _
   | exact drachmlaw02_awake.mono _
   | exact frac_Read.mono _ _
   | exact frac_Right.mono _ _ _ _
   | exact frac_Text.mono _ _ _ _
   | exact LeO.none _
   | refine LeO.ite ?_ ?_
   | refine LeO.bind ?_ (fun _ => ?_)
  ·intro y0 y1 y2
   unfold drachmlaw02_both.j1
   repeat' first
   | (with_reducible exact ih0 _ _ _ _ _ _)
   | (with_reducible exact ih1 _ _ _)
   | (with_reducible exact drachmlaw02_awake.mono _)
   | (with_reducible exact frac_Read.mono _ _)
   | (with_reducible exact frac_Right.mono _ _ _ _)
   | (with_reducible exact frac_Text.mono _ _ _ _)
   | (with_reducible exact LeO.refl _)
   | (with_reducible exact LeO.none _)
   | (with_reducible refine LeO.ite ?_ ?_)
   | (with_reducible refine LeO.bind ?_ (fun _ => ?_))
   | exact ih0 _ _ _ _ _ _
   | exact ih1 _ _ _
   | exact drachmlaw02_awake.mono _
   | exact frac_Read.mono _ _
   | exact frac_Right.mono _ _ _ _
   | exact frac_Text.mono _ _ _ _
   | exact LeO.none _
   | refine LeO.ite ?_ ?_
   | refine LeO.bind ?_ (fun _ => ?_)
theorem drachmlaw02_both.mono : ∀ a0 a1 a2 a3 a4 a5 k, LeO (drachmlaw02_both.f k a0 a1 a2 a3 a4 a5) (drachmlaw02_both.f (k + 1) a0 a1 a2 a3 a4 a5) := by
 intro a0 a1 a2 a3 a4 a5 k
 obtain ⟨ih0, ih1⟩ := drachmlaw02_both.mono_l k
 unfold drachmlaw02_both.f
 repeat' first
   | (with_reducible exact ih0 _ _ _ _ _ _)
   | (with_reducible exact ih1 _ _ _)
   | (with_reducible exact drachmlaw02_awake.mono _)
   | (with_reducible exact frac_Read.mono _ _)
   | (with_reducible exact frac_Right.mono _ _ _ _)
   | (with_reducible exact frac_Text.mono _ _ _ _)
   | (with_reducible exact LeO.refl _)
   | (with_reducible exact LeO.none _)
   | (with_reducible refine LeO.ite ?_ ?_)
   | (with_reducible refine LeO.bind ?_ (fun _ => ?_))
   | exact ih0 _ _ _ _ _ _
   | exact ih1 _ _ _
   | exact drachmlaw02_awake.mono _
   | exact frac_Read.mono _ _
   | exact frac_Right.mono _ _ _ _
   | exact frac_Text.mono _ _ _ _
   | exact LeO.none _
   | refine LeO.ite ?_ ?_
   | refine LeO.bind ?_ (fun _ => ?_)
def drachmlaw02_both.T7 : Bool × List (List Nat × List Nat) := (true, [([], []), ([], []), ([0, 1], [0, 1]), ([], []), ([3], [3]), ([4], [4]), ([2, 5], [2, 5]), ([], []), ([], []), ([8], [8]), ([7, 9], [7, 9]), ([6, 10], [6, 10]), ([11, 0, 1, 2, 3, 4, 5, 6, 7, 8, 9, 10, 11], [11])])
def drachmlaw02_both.B7 : List Nat := [0, 0, 3, 0, 8, 24, 63, 0, 0, 256, 896, 2047, 4095]
theorem drachmlaw02_both.tab7 : rtab .any (opsOf Tryd.f24 7) = drachmlaw02_both.T7 := by kernel_rfl
theorem drachmlaw02_both.bits7 : waitsOk drachmlaw02_both.T7.2 drachmlaw02_both.B7 = true := by kernel_rfl
set_option maxHeartbeats 8000000 in
set_option maxRecDepth 100000 in
theorem drachmlaw02_both.calls (k : Nat) (a0_0 : Int) (a0_1 : Int) (a0_2 : Int) (a1 : ByteArray) (a2 : Int) (a3 : Int) (r : Bool) (w : World) (hG : Glob [1, 3, 4, 5] w) (h : drachmlaw02_both.f k a0_0 a0_1 a0_2 a1 a2 a3 = some r) :
  Calls Tryd.prog 24 #[.agg #[.int .i64 a0_0, .int .i64 a0_1, .int .i64 a0_2], .string a1, .int .i64 a2, .int .u8 a3] w fun e w' => e = .returned (.bool r) ∧ Below w.heap.size w w' := by
 have hu24 := Tryd.underlying24
 have HB := Aside0.mk (Below.refl w.heap.size w)
 have H : ((drachmlaw02_awake.f k).bind fun t102 => ((frac_Text.f k a0_0 a0_1 a0_2).bind fun t103 => ((frac_Read.f k t103).bind fun bt104 => (if bt104.2.2.2 = 0 then (if (!(a0_0 == bt104.1) || (!(a0_1 == bt104.2.1) || (!(a0_2 == bt104.2.2.1)))) = true then (drachmlaw02_both.j0 k a1 a2 a3 t102 t103 true) else (drachmlaw02_both.j0 k a1 a2 a3 t102 t103 ((t103.size : Int) == 0))) else (drachmlaw02_both.j0 k a1 a2 a3 t102 t103 true))))) = some r := h
 clear h
 replace H := Option.bind_eq_some_iff.mp H
 obtain ⟨t102, A50, H⟩ := H
 replace H : ((frac_Text.f k a0_0 a0_1 a0_2).bind fun t103 => ((frac_Read.f k t103).bind fun bt104 => (if bt104.2.2.2 = 0 then (if (!(a0_0 == bt104.1) || (!(a0_1 == bt104.2.1) || (!(a0_2 == bt104.2.2.1)))) = true then (drachmlaw02_both.j0 k a1 a2 a3 t102 t103 true) else (drachmlaw02_both.j0 k a1 a2 a3 t102 t103 ((t103.size : Int) == 0))) else (drachmlaw02_both.j0 k a1 a2 a3 t102 t103 true)))) = some r := H
 have A5 := Aside0.mk A50
 clear A50
 replace H := Option.bind_eq_some_iff.mp H
 obtain ⟨t103, A60, H⟩ := H
 replace H : ((frac_Read.f k t103).bind fun bt104 => (if bt104.2.2.2 = 0 then (if (!(a0_0 == bt104.1) || (!(a0_1 == bt104.2.1) || (!(a0_2 == bt104.2.2.1)))) = true then (drachmlaw02_both.j0 k a1 a2 a3 t102 t103 true) else (drachmlaw02_both.j0 k a1 a2 a3 t102 t103 ((t103.size : Int) == 0))) else (drachmlaw02_both.j0 k a1 a2 a3 t102 t103 true))) = some r := H
 have A6 := Aside0.mk A60
 clear A60
 replace H := Option.bind_eq_some_iff.mp H
 obtain ⟨⟨t104, t105, t106, t107⟩, A70, H⟩ := H
 replace H : (if t107 = 0 then (if (!(a0_0 == t104) || (!(a0_1 == t105) || (!(a0_2 == t106)))) = true then (drachmlaw02_both.j0 k a1 a2 a3 t102 t103 true) else (drachmlaw02_both.j0 k a1 a2 a3 t102 t103 ((t103.size : Int) == 0))) else (drachmlaw02_both.j0 k a1 a2 a3 t102 t103 true)) = some r := H
 have A7 := Aside0.mk A70
 clear A70
 have HC8 := Aside0.mk H
 clear H
 go_enter Tryd.func24, Tryd.ntmps24
 go_upto_region 4 with (first | ((with_reducible refine gate_dst (N := 4) rfl ?_); (try (refine gate_guard (by rfl) ?_; dsimp only)); refine box_event ?hg (N := 4) ?hd (cs := #[.int .i64 a0_0, .int .i64 a0_1, .int .i64 a0_2]) (t := 24) ?hr ?_; (case hd => rfl); (case hg => rfl); (case hr => first | (go_simp; done) | (go_simp; rfl)); intro gb101 hg w9 hbox hb; have n0_ := Aside0.mk (below_step (bl HB.out) hb); have n1_ := Aside0.mk (hbox); have n2_ := Aside0.mk ((by rw [hg]; exact (below_size (bl HB.out)) : w.heap.size ≤ gb101)); have n3_ := Aside0.mk ((by rw [hg]; exact (below_size (bl HB.out)) : w.heap.size ≤ gb101)); clear HB; have HB := n0_; have BK101 := n1_; have GW101 := n2_; have GE101 := n3_; clear n0_ n1_ n2_ n3_; clear hb hbox hg) | ((with_reducible refine gate_callee (f := 10) rfl ?_); refine goesL_ (some 19) rfl rfl Tryd.func10 (by kernel_rfl) rfl #[] rfl (by (try simp only [List.map_toArray, List.map_cons, List.map_nil]); first | done | rfl | (simp only [List.length_drop, List.length_take]; rfl)) ?_; (with_reducible refine (drachmlaw02_awake.calls k  t102 _ (Glob.use hG (by decide) (bl HB.out)) A5.out).mono ?_); rintro e w10 ⟨rfl, hb⟩; refine ⟨_, rfl, ?_⟩; replace BK101 := Aside0.mk (blk_below (kp BK101.out) hb); replace HB := Aside0.mk (below_step (bl HB.out) hb); (try clear hb); (try clear hb2); (try clear hk); (try clear hi); obtain ⟨hcz11_0, hcz11_1, hcz11_2⟩ := hc3 BK101.out; obtain ⟨hfz11_0, hfz11_1, hfz11_2⟩ := hf3 BK101.out) | ((with_reducible refine gate_callee (f := 22) rfl ?_); refine goesL_ (some 21) rfl rfl Tryd.func22 (by kernel_rfl) rfl #[.agg #[.int .i64 a0_0, .int .i64 a0_1, .int .i64 a0_2]] rfl (by (try simp only [List.map_toArray, List.map_cons, List.map_nil]); first | done | rfl | (simp only [List.length_drop, List.length_take]; rfl)) ?_; (with_reducible refine (frac_Text.calls k a0_0 a0_1 a0_2 t103 _ (Glob.use hG (by decide) (bl HB.out)) A6.out).mono ?_); rintro e w12 ⟨rfl, hb⟩; refine ⟨_, rfl, ?_⟩; replace BK101 := Aside0.mk (blk_below (kp BK101.out) hb); replace HB := Aside0.mk (below_step (bl HB.out) hb); (try clear hb); (try clear hb2); (try clear hk); (try clear hi)) | ((with_reducible refine gate_callee (f := 20) rfl ?_); refine goesL_ (some 24) rfl rfl Tryd.func20 (by kernel_rfl) rfl #[.string t103] rfl (by (try simp only [List.map_toArray, List.map_cons, List.map_nil]); first | done | rfl | (simp only [List.length_drop, List.length_take]; rfl)) ?_; (with_reducible refine (frac_Read.calls k t103 t104 t105 t106 t107 _ (Glob.use hG (by decide) (bl HB.out)) A7.out).mono ?_); rintro e w13 ⟨rfl, hb⟩; refine ⟨_, rfl, ?_⟩; replace BK101 := Aside0.mk (blk_below (kp BK101.out) hb); replace HB := Aside0.mk (below_step (bl HB.out) hb); (try clear hb); (try clear hb2); (try clear hk); (try clear hi)) | ((with_reducible refine gate_dst (N := 11) rfl ?_); (try (refine gate_guard (by rfl) ?_; dsimp only)); refine box_event ?hg (N := 11) ?hd (cs := #[.int .i64 0, .int .i64 0, .int .i64 0]) (t := 24) ?hr ?_; (case hd => rfl); (case hg => rfl); (case hr => first | (go_simp; done) | (go_simp; rfl)); intro gb108 hg w14 hbox hb; have n0_ := Aside0.mk (blk_below (kp BK101.out) hb); have n1_ := Aside0.mk (below_step (bl HB.out) hb); have n2_ := Aside0.mk (hbox); have n3_ := Aside0.mk ((by rw [hg]; exact (below_size (bl HB.out)) : w.heap.size ≤ gb108)); have n4_ := Aside0.mk ((by rw [hg]; exact (below_size (bl HB.out)) : w.heap.size ≤ gb108)); have n5_ := Aside0.mk ((by rw [hg]; exact Nat.ne_of_lt (blk_lt (kp BK101.out)) : gb101 ≠ gb108)); have n6_ := Aside0.mk ((by rw [hg]; exact Nat.ne_of_gt (blk_lt (kp BK101.out)) : gb108 ≠ gb101)); clear BK101; clear HB; have BK101 := n0_; have HB := n1_; have BK108 := n2_; have GW108 := n3_; have GE108 := n4_; have NB101_108 := n5_; have NB108_101 := n6_; clear n0_ n1_ n2_ n3_ n4_ n5_ n6_; clear hb hbox hg; have hnb15 := NB108_101.out; have hnc15 := NB101_108.out; obtain ⟨hcz16_0, hcz16_1, hcz16_2⟩ := hc3 BK108.out; obtain ⟨hfz16_0, hfz16_1, hfz16_2⟩ := hf3 BK108.out))
 (try simp only [Act.put, List.setIfInBounds_toArray, List.set_cons_zero, List.set_cons_succ])
 go_cut [38] (fun v38 wc => ∃ (kq : Nat) (x38_7 : Bool), v38 = .bool x38_7 ∧ Aside0 (drachmlaw02_both.j0 kq a1 a2 a3 t102 t103 x38_7 = some r) ∧ Aside0 (kq ≤ k) ∧ Aside0 (wc.heap[gb101]? = some (.cells #[.int .i64 a0_0, .int .i64 a0_1, .int .i64 a0_2] 24 (0, 0))) ∧ Aside0 (wc.heap[gb108]? = some (.cells #[.int .i64 t104, .int .i64 t105, .int .i64 t106] 24 (0, 0))) ∧ Aside0 (Below w.heap.size w wc))
 case first =>
  have H := HC8.out
  clear HC8
  by_cases c17 : t107 = 0
  ·rw [if_pos c17] at H
   have c17b0 : (t107 == 0) = true := beq_iff_eq.mpr c17
   have c17b1 : (t107 != 0) = false := bne_eq_false_iff_eq.mpr c17
   clear c17
   (first | rw [c17b0] | (simp only [i64_w, i32_w]; rw [c17b0]) | skip)
   by_cases c18 : (!(a0_0 == t104) || (!(a0_1 == t105) || (!(a0_2 == t106)))) = true
   ·rw [if_pos c18] at H
    have c18b0 : (!(a0_0 == t104) || (!(a0_1 == t105) || (!(a0_2 == t106)))) = true := c18
    clear c18
    have H' := Aside0.mk H
    clear H
    have hnb19 := NB101_108.out
    have hnc19 := NB108_101.out
    obtain ⟨hcz20_0, hcz20_1, hcz20_2⟩ := hc3 BK101.out
    obtain ⟨hfz20_0, hfz20_1, hfz20_2⟩ := hf3 BK101.out
    obtain ⟨hcz21_0, hcz21_1, hcz21_2⟩ := hc3 BK108.out
    obtain ⟨hfz21_0, hfz21_1, hfz21_2⟩ := hf3 BK108.out
    go_wp2
    go_meet
    case rel => exact ⟨_, (true), (by first | rfl | (simp; done) | (simp [*]; done)), H', ⟨by first | omega | exact Nat.le_refl _⟩, ⟨kp BK101.out⟩, ⟨kp (p3_2 (kp (p3_1 (kp (p3_0 (kp BK108.out))))))⟩, ⟨bl HB.out⟩⟩
   ·rw [if_neg c18] at H
    have c18b0 : (!(a0_0 == t104) || (!(a0_1 == t105) || (!(a0_2 == t106)))) = false := by simpa using c18
    clear c18
    have H' := Aside0.mk H
    clear H
    have hnb22 := NB101_108.out
    have hnc22 := NB108_101.out
    obtain ⟨hcz23_0, hcz23_1, hcz23_2⟩ := hc3 BK101.out
    obtain ⟨hfz23_0, hfz23_1, hfz23_2⟩ := hf3 BK101.out
    obtain ⟨hcz24_0, hcz24_1, hcz24_2⟩ := hc3 BK108.out
    obtain ⟨hfz24_0, hfz24_1, hfz24_2⟩ := hf3 BK108.out
    go_wp2
    go_meet
    case rel => exact ⟨_, (((t103.size : Int) == 0)), (by first | rfl | (simp; done) | (simp [*]; done)), H', ⟨by first | omega | exact Nat.le_refl _⟩, ⟨kp BK101.out⟩, ⟨kp (p3_2 (kp (p3_1 (kp (p3_0 (kp BK108.out))))))⟩, ⟨bl HB.out⟩⟩
  ·rw [if_neg c17] at H
   have c17b0 : (t107 == 0) = false := beq_eq_false_iff_ne.mpr c17
   have c17b1 : (t107 != 0) = true := bne_iff_ne.mpr c17
   (first | rw [c17b0] | (simp only [i64_w, i32_w]; rw [c17b0]) | skip)
   have H' := Aside0.mk H
   clear H
   go_wp2
   go_meet
   case rel => exact ⟨_, (true), (by first | rfl | (simp; done) | (simp [*]; done)), H', ⟨by first | omega | exact Nat.le_refl _⟩, ⟨kp BK101.out⟩, ⟨kp (p3_2 (kp (p3_1 (kp (p3_0 (kp BK108.out))))))⟩, ⟨bl HB.out⟩⟩
 case rest =>
  clear HC8
  try clear c1
  try clear c2
  try clear p2
  try clear c10
  try clear c15
  try clear c17
  try clear c17b0
  try clear c17b1
  try clear c18
  try clear c18b0
  try clear c19
  try clear c20
  try clear c22
  try clear c24
  try clear hcz11_0
  try clear hcz11_1
  try clear hcz11_2
  try clear hcz16_0
  try clear hcz16_1
  try clear hcz16_2
  try clear hcz20_0
  try clear hcz20_1
  try clear hcz20_2
  try clear hcz21_0
  try clear hcz21_1
  try clear hcz21_2
  try clear hcz23_0
  try clear hcz23_1
  try clear hcz23_2
  try clear hcz24_0
  try clear hcz24_1
  try clear hcz24_2
  try clear hfz11_0
  try clear hfz11_1
  try clear hfz11_2
  try clear hfz16_0
  try clear hfz16_1
  try clear hfz16_2
  try clear hfz20_0
  try clear hfz20_1
  try clear hfz20_2
  try clear hfz21_0
  try clear hfz21_1
  try clear hfz21_2
  try clear hfz23_0
  try clear hfz23_1
  try clear hfz23_2
  try clear hfz24_0
  try clear hfz24_1
  try clear hfz24_2
  obtain ⟨kq, x38_7, rfl, HA, HJ7, BK101, BK108, HB⟩ := hcut
  cases kq with
  | zero => exact absurd HA.out (by simp [drachmlaw02_both.j0])
  | succ kj7 =>
   have H := HA.out
   clear HA
   simp only [drachmlaw02_both.j0] at H
   by_cases c25 : x38_7 = true
   ·subst c25
    have H1 : (none) = some r := by rw [if_pos rfl] at H; exact H
    clear H
    have H := H1
    clear H1
    exact absurd H (by simp)
   ·replace c25 := Bool.eq_false_iff.mpr c25
    subst c25
    have H1 : (if (t103.size : Int) = 0 then (none) else (if 0 ≤ (Int.tmod (wrap64 ((Int.tmod a2 (t103.size : Int)) + (t103.size : Int))) (t103.size : Int)) then (if (Int.tmod (wrap64 ((Int.tmod a2 (t103.size : Int)) + (t103.size : Int))) (t103.size : Int)) ≤ (t103.size : Int) then ((some (([a3] : List Int) : List Int)).bind fun y109 => (if (t103.extract 0 ((Int.tmod (wrap64 ((Int.tmod a2 (t103.size : Int)) + (t103.size : Int))) (t103.size : Int)) : Int).toNat).size + (strOfNums y109).size ≤ 9223372036854775807 then (if 0 ≤ (wrap64 ((Int.tmod (wrap64 ((Int.tmod a2 (t103.size : Int)) + (t103.size : Int))) (t103.size : Int)) + 1)) then (if (wrap64 ((Int.tmod (wrap64 ((Int.tmod a2 (t103.size : Int)) + (t103.size : Int))) (t103.size : Int)) + 1)) ≤ (t103.size : Int) then (if ((t103.extract 0 ((Int.tmod (wrap64 ((Int.tmod a2 (t103.size : Int)) + (t103.size : Int))) (t103.size : Int)) : Int).toNat) ++ (strOfNums y109)).size + (t103.extract ((wrap64 ((Int.tmod (wrap64 ((Int.tmod a2 (t103.size : Int)) + (t103.size : Int))) (t103.size : Int)) + 1)) : Int).toNat t103.size).size ≤ 9223372036854775807 then (if (a1.size : Int) > 60 then (if 0 ≤ 60 then (if 60 ≤ (a1.size : Int) then (drachmlaw02_both.j1 kj7 (a1.extract 0 60) t102 (((t103.extract 0 ((Int.tmod (wrap64 ((Int.tmod a2 (t103.size : Int)) + (t103.size : Int))) (t103.size : Int)) : Int).toNat) ++ (strOfNums y109)) ++ (t103.extract ((wrap64 ((Int.tmod (wrap64 ((Int.tmod a2 (t103.size : Int)) + (t103.size : Int))) (t103.size : Int)) + 1)) : Int).toNat t103.size))) else (none)) else (none)) else (drachmlaw02_both.j1 kj7 a1 t102 (((t103.extract 0 ((Int.tmod (wrap64 ((Int.tmod a2 (t103.size : Int)) + (t103.size : Int))) (t103.size : Int)) : Int).toNat) ++ (strOfNums y109)) ++ (t103.extract ((wrap64 ((Int.tmod (wrap64 ((Int.tmod a2 (t103.size : Int)) + (t103.size : Int))) (t103.size : Int)) + 1)) : Int).toNat t103.size)))) else (none)) else (none)) else (none)) else (none))) else (none)) else (none))) = some r := by rw [if_neg (show ¬ (false = true) by decide)] at H; exact H
    clear H
    have H := H1
    clear H1
    by_cases c26 : (t103.size : Int) = 0
    ·rw [if_pos c26] at H
     exact absurd H (by simp)
    ·rw [if_neg c26] at H
     have c26b0 : ((t103.size : Int) == 0) = false := beq_eq_false_iff_ne.mpr c26
     have c26b1 : ((t103.size : Int) != 0) = true := bne_iff_ne.mpr c26
     obtain ⟨ji27, hji27⟩ : ∃ j_ : Int, (Int.tmod (wrap64 ((Int.tmod a2 (t103.size : Int)) + (t103.size : Int))) (t103.size : Int)) = j_ := ⟨_, rfl⟩
     replace H : (if 0 ≤ (ji27) then (if (ji27) ≤ (t103.size : Int) then ((some (([a3] : List Int) : List Int)).bind fun y109 => (if (t103.extract 0 ((ji27) : Int).toNat).size + (strOfNums y109).size ≤ 9223372036854775807 then (if 0 ≤ (wrap64 ((ji27) + 1)) then (if (wrap64 ((ji27) + 1)) ≤ (t103.size : Int) then (if ((t103.extract 0 ((ji27) : Int).toNat) ++ (strOfNums y109)).size + (t103.extract ((wrap64 ((ji27) + 1)) : Int).toNat t103.size).size ≤ 9223372036854775807 then (if (a1.size : Int) > 60 then (if 0 ≤ 60 then (if 60 ≤ (a1.size : Int) then (drachmlaw02_both.j1 kj7 (a1.extract 0 60) t102 (((t103.extract 0 ((ji27) : Int).toNat) ++ (strOfNums y109)) ++ (t103.extract ((wrap64 ((ji27) + 1)) : Int).toNat t103.size))) else (none)) else (none)) else (drachmlaw02_both.j1 kj7 a1 t102 (((t103.extract 0 ((ji27) : Int).toNat) ++ (strOfNums y109)) ++ (t103.extract ((wrap64 ((ji27) + 1)) : Int).toNat t103.size)))) else (none)) else (none)) else (none)) else (none))) else (none)) else (none)) = some r := by first | (rw [hji27] at H; exact H) | (simp only [hji27] at H ⊢; exact H)
     by_cases c28 : 0 ≤ (ji27)
     ·rw [if_pos c28] at H
      have c28b0 := eq_true c28
      have c28b1 : decide (0 ≤ (ji27)) = true := decide_eq_true c28
      clear c28
      by_cases c29 : (ji27) ≤ (t103.size : Int)
      ·rw [if_pos c29] at H
       have c29b0 := eq_true c29
       have c29b1 : decide ((ji27) ≤ (t103.size : Int)) = true := decide_eq_true c29
       clear c29
       obtain ⟨y109, hy109⟩ : ∃ y_ : List Int, y_ = (([a3] : List Int)) := ⟨_, rfl⟩
       replace H : (if (t103.extract 0 ((ji27) : Int).toNat).size + (strOfNums y109).size ≤ 9223372036854775807 then (if 0 ≤ (wrap64 ((ji27) + 1)) then (if (wrap64 ((ji27) + 1)) ≤ (t103.size : Int) then (if ((t103.extract 0 ((ji27) : Int).toNat) ++ (strOfNums y109)).size + (t103.extract ((wrap64 ((ji27) + 1)) : Int).toNat t103.size).size ≤ 9223372036854775807 then (if (a1.size : Int) > 60 then (if 0 ≤ 60 then (if 60 ≤ (a1.size : Int) then (drachmlaw02_both.j1 kj7 (a1.extract 0 60) t102 (((t103.extract 0 ((ji27) : Int).toNat) ++ (strOfNums y109)) ++ (t103.extract ((wrap64 ((ji27) + 1)) : Int).toNat t103.size))) else (none)) else (none)) else (drachmlaw02_both.j1 kj7 a1 t102 (((t103.extract 0 ((ji27) : Int).toNat) ++ (strOfNums y109)) ++ (t103.extract ((wrap64 ((ji27) + 1)) : Int).toNat t103.size)))) else (none)) else (none)) else (none)) else (none)) = some r := by first | (rw [hy109]; with_reducible exact H) | (have H2_ := (Option.bind_some _ _).symm.trans H; rw [hy109]; with_reducible exact H2_) | (have H2_ := (Option.bind_some _ _).symm.trans H; with_reducible exact H2_) | with_reducible exact H | (rw [hy109]; exact H) | exact H
       have Ny109 := Aside0.mk hy109
       clear hy109
       by_cases c30 : (t103.extract 0 ((ji27) : Int).toNat).size + (strOfNums y109).size ≤ 9223372036854775807
       ·rw [if_pos c30] at H
        have c30b0 := eq_true c30
        have c30b1 : decide ((t103.extract 0 ((ji27) : Int).toNat).size + (strOfNums y109).size ≤ 9223372036854775807) = true := decide_eq_true c30
        try have c30b2 : (9223372036854775807 < (t103.extract 0 ((ji27) : Int).toNat).size + (strOfNums y109).size) = False := eq_false (Nat.not_lt.2 c30)
        obtain ⟨ji31, hji31⟩ : ∃ j_ : Int, (wrap64 ((ji27) + 1)) = j_ := ⟨_, rfl⟩
        replace H : (if 0 ≤ (ji31) then (if (ji31) ≤ (t103.size : Int) then (if ((t103.extract 0 ((ji27) : Int).toNat) ++ (strOfNums y109)).size + (t103.extract ((ji31) : Int).toNat t103.size).size ≤ 9223372036854775807 then (if (a1.size : Int) > 60 then (if 0 ≤ 60 then (if 60 ≤ (a1.size : Int) then (drachmlaw02_both.j1 kj7 (a1.extract 0 60) t102 (((t103.extract 0 ((ji27) : Int).toNat) ++ (strOfNums y109)) ++ (t103.extract ((ji31) : Int).toNat t103.size))) else (none)) else (none)) else (drachmlaw02_both.j1 kj7 a1 t102 (((t103.extract 0 ((ji27) : Int).toNat) ++ (strOfNums y109)) ++ (t103.extract ((ji31) : Int).toNat t103.size)))) else (none)) else (none)) else (none)) = some r := by first | (rw [hji31] at H; exact H) | (simp only [hji31] at H ⊢; exact H)
        have hji31w : (IntKind.i64.wrap ((ji27) + 1)) = ji31 := (i64_w _).trans hji31
        by_cases c32 : 0 ≤ (ji31)
        ·rw [if_pos c32] at H
         have c32b0 := eq_true c32
         have c32b1 : decide (0 ≤ (ji31)) = true := decide_eq_true c32
         clear c32
         by_cases c33 : (ji31) ≤ (t103.size : Int)
         ·rw [if_pos c33] at H
          have c33b0 := eq_true c33
          have c33b1 : decide ((ji31) ≤ (t103.size : Int)) = true := decide_eq_true c33
          clear c33
          by_cases c34 : ((t103.extract 0 ((ji27) : Int).toNat) ++ (strOfNums y109)).size + (t103.extract ((ji31) : Int).toNat t103.size).size ≤ 9223372036854775807
          ·rw [if_pos c34] at H
           have c34b0 := eq_true c34
           have c34b1 : decide (((t103.extract 0 ((ji27) : Int).toNat) ++ (strOfNums y109)).size + (t103.extract ((ji31) : Int).toNat t103.size).size ≤ 9223372036854775807) = true := decide_eq_true c34
           try have c34b2 : (9223372036854775807 < ((t103.extract 0 ((ji27) : Int).toNat) ++ (strOfNums y109)).size + (t103.extract ((ji31) : Int).toNat t103.size).size) = False := eq_false (Nat.not_lt.2 c34)
           (try have c34b3 : (9223372036854775807 < (t103.extract 0 ((ji27) : Int).toNat).size + (strOfNums y109).size + (t103.extract ((ji31) : Int).toNat t103.size).size) = False := eq_false (by have h_ := c34; simp only [ByteArray.size_append] at h_; omega))
           have HC35 := Aside0.mk H
           clear H
           try go_wp2
           (try (rw [drewN_self wc]; generalize hq_ : World.drewN wc _ = wc; replace BK101 := Aside0.mk (kq hq_ BK101.out); replace BK108 := Aside0.mk (kq hq_ BK108.out); replace HB := Aside0.mk (bq hq_ HB.out); clear hq_))
           replace BK101 := Aside0.mk (blk_drew BK101.out)
           replace BK108 := Aside0.mk (blk_drew BK108.out)
           replace HB := Aside0.mk (below_drew1 HB.out)
           refine start_ (n := 13) (S := fun w' => True) (ds := []) #[false, false, false, false, false, false, false, false, false, false, false, false, false] (by kernel_rfl) rfl rfl trivial (fun hHeld => ?_); refine with_tabW drachmlaw02_both.tab7 drachmlaw02_both.bits7 (fun HT_ HW_ => ?_)
           generalize wc.drew = w36 at BK101 BK108 HB hHeld ⊢
           refine pure_ (i := 0) (N := some 49) (v := ?_) (a' := ?_) #[true, false, false, false, false, false, false, false, false, false, false, false, false] rfl rfl (any_of HT_.out (by kernel_rfl)) (fun _ _ _ h => h) (Or.inl ⟨by rfl, ?_⟩) ?_ ?_
           rotate_left
           ·intro w'
            go_simp
            first | with_reducible rfl | (rw [if_neg (by simp only [ByteArray.size_extract, ByteArray.size_append, eq_iff_iff, iff_true, iff_false] at *; omega)])
           rotate_left
           ·simp only [Act.put, List.setIfInBounds_toArray, List.set_cons_zero, List.set_cons_succ, i64_w, i32_w]
            rfl
           refine pure_ (i := 1) (N := some 50) (v := ?_) (a' := ?_) #[true, true, false, false, false, false, false, false, false, false, false, false, false] rfl rfl (any_of HT_.out (by kernel_rfl)) (fun _ _ _ h => h) (Or.inl ⟨by rfl, ?_⟩) ?_ ?_
           rotate_left
           ·intro w'
            go_simp
            first | with_reducible rfl | (rw [if_neg (by simp only [ByteArray.size_extract, ByteArray.size_append, eq_iff_iff, iff_true, iff_false] at *; omega)])
           rotate_left
           ·simp only [Act.put, List.setIfInBounds_toArray, List.set_cons_zero, List.set_cons_succ, i64_w, i32_w]
            rfl
           refine pure_ (i := 2) (N := some 51) (v := ?_) (a' := ?_) #[true, true, true, false, false, false, false, false, false, false, false, false, false] rfl rfl (any_of HT_.out (by kernel_rfl)) (fun _ _ _ h => h) (Or.inl ⟨by rfl, ?_⟩) ?_ ?_
           rotate_left
           ·intro w'
            go_simp
            first | with_reducible rfl | (rw [if_neg (by simp only [ByteArray.size_extract, ByteArray.size_append, eq_iff_iff, iff_true, iff_false] at *; omega)])
           rotate_left
           ·simp only [Act.put, List.setIfInBounds_toArray, List.set_cons_zero, List.set_cons_succ, i64_w, i32_w]
            rfl
           refine pure_ (i := 3) (N := some 52) (v := ?_) (a' := ?_) #[true, true, true, true, false, false, false, false, false, false, false, false, false] rfl rfl (any_of HT_.out (by kernel_rfl)) (fun _ _ _ h => h) (Or.inl ⟨by rfl, ?_⟩) ?_ ?_
           rotate_left
           ·intro w'
            go_simp
            first | with_reducible rfl | (rw [if_neg (by simp only [ByteArray.size_extract, ByteArray.size_append, eq_iff_iff, iff_true, iff_false] at *; omega)])
           rotate_left
           ·simp only [Act.put, List.setIfInBounds_toArray, List.set_cons_zero, List.set_cons_succ, i64_w, i32_w]
            rfl
           refine pure_ (i := 7) (N := some 56) (v := ?_) (a' := ?_) #[true, true, true, true, false, false, false, true, false, false, false, false, false] rfl rfl (any_of HT_.out (by kernel_rfl)) (fun _ _ _ h => h) (Or.inl ⟨by rfl, ?_⟩) ?_ ?_
           rotate_left
           ·intro w'
            go_simp
            first | with_reducible rfl | (rw [if_neg (by simp only [ByteArray.size_extract, ByteArray.size_append, eq_iff_iff, iff_true, iff_false] at *; omega)])
           rotate_left
           ·simp only [Act.put, List.setIfInBounds_toArray, List.set_cons_zero, List.set_cons_succ, i64_w, i32_w]
            rfl
           refine pure_ (i := 8) (N := some 57) (v := ?_) (a' := ?_) #[true, true, true, true, false, false, false, true, true, false, false, false, false] rfl rfl (any_of HT_.out (by kernel_rfl)) (fun _ _ _ h => h) (Or.inl ⟨by rfl, ?_⟩) ?_ ?_
           rotate_left
           ·intro w'
            go_simp
            first | with_reducible rfl | (rw [if_neg (by simp only [ByteArray.size_extract, ByteArray.size_append, eq_iff_iff, iff_true, iff_false] at *; omega)])
           rotate_left
           ·simp only [Act.put, List.setIfInBounds_toArray, List.set_cons_zero, List.set_cons_succ, i64_w, i32_w]
            rfl
           refine pure_ (i := 9) (N := some 58) (v := ?_) (a' := ?_) #[true, true, true, true, false, false, false, true, true, true, false, false, false] rfl rfl (any_of HT_.out (by kernel_rfl)) (fun _ _ _ h => h) (Or.inl ⟨by rfl, ?_⟩) ?_ ?_
           rotate_left
           ·intro w'
            go_simp
            first | with_reducible rfl | (rw [if_neg (by simp only [ByteArray.size_extract, ByteArray.size_append, eq_iff_iff, iff_true, iff_false] at *; omega)])
           rotate_left
           ·simp only [Act.put, List.setIfInBounds_toArray, List.set_cons_zero, List.set_cons_succ, i64_w, i32_w]
            rfl
           refine pure_ (i := 10) (N := some 59) (v := ?_) (a' := ?_) #[true, true, true, true, false, false, false, true, true, true, true, false, false] rfl rfl (any_of HT_.out (by kernel_rfl)) (fun _ _ _ h => h) (Or.inl ⟨by rfl, ?_⟩) ?_ ?_
           rotate_left
           ·intro w'
            go_simp
            first | with_reducible rfl | (rw [if_neg (by simp only [ByteArray.size_extract, ByteArray.size_append, eq_iff_iff, iff_true, iff_false] at *; omega)])
           rotate_left
           ·simp only [Act.put, List.setIfInBounds_toArray, List.set_cons_zero, List.set_cons_succ, i64_w, i32_w]
            rfl
           refine one_ (i := 4) (N := some 53) #[true, true, true, true, true, false, false, true, true, true, true, false, false] rfl rfl (one_of HT_.out (by kernel_rfl)) (by decide) (fun K hK => ?_)
           refine Kd.R_lit_step (Kd.int .u8) _ 5 ?hg (N := 53) ?hd (xs := ([a3] : List Int)) (inner := [.int .u8 a3]) (ok := fun _ => True) (okp := fun _ => True) ?hr ?hp (fun _ hk => hk) trivial (Below.refl _ _) (Nat.le_refl _) (by simp) ?_; (case hd => rfl); (case hg => rfl); (case hr => first | (go_simp; done) | (go_simp; rfl)); (case hp => exact (Reps.one (show Kd.M (Kd.int .u8) _ _ _ a3 [.int .u8 a3] from rfl) (Reps.none _ _)))
           intro v110 w37 ho38 hb hg_ hnew_
           clear hg_ hnew_
           (first | rw [← Ny109.out] at ho38 | (simp only [Int.reduceToNat] at ho38; rw [← Ny109.out] at ho38))
           have HO111 := Aside0.mk (Kd.R_lower ho38 (below_size (bl HB.out)))
           replace BK101 := Aside0.mk (blk_below (kp BK101.out) hb)
           replace BK108 := Aside0.mk (blk_below (kp BK108.out) hb)
           replace HB := Aside0.mk (below_step (bl HB.out) hb)
           clear hb ho38
           refine hK.out _ _ trivial (fun hHeld => ?_)
           clear hK K
           refine norm_ (a' := ?_) ?_ ?_
           rotate_left
           ·show Act.put _ (some 53) _ = _
            simp only [Act.put, List.setIfInBounds_toArray, List.set_cons_zero, List.set_cons_succ, i64_w, i32_w]
            rfl
           refine one_ (i := 5) (N := some 54) #[true, true, true, true, true, true, false, true, true, true, true, false, false] rfl rfl (one_of HT_.out (by kernel_rfl)) (by decide) (fun K hK => ?_)
           have hcv39 := own_string (P := Tryd.prog) Tryd.underlying82 Tryd.underlying5 Tryd.underlying9 (Kd.own_of_R HO111.out)
           refine value_ (w1 := ?_) (v := ?_) (by rfl) rfl ?_ ?_
           rotate_left 2
           ·go_simp
            constructor
            ·rfl
            ·rfl
           clear hcv39
           refine hK.out _ _ trivial (fun hHeld => ?_)
           clear hK K
           refine norm_ (a' := ?_) ?_ ?_
           rotate_left
           ·show Act.put _ (some 54) _ = _
            simp only [Act.put, List.setIfInBounds_toArray, List.set_cons_zero, List.set_cons_succ, i64_w, i32_w]
            rfl
           refine pure_ (i := 6) (N := some 55) (v := ?_) (a' := ?_) #[true, true, true, true, true, true, true, true, true, true, true, false, false] rfl rfl (any_of HT_.out (by kernel_rfl)) (fun _ _ _ h => h) (Or.inl ⟨by rfl, ?_⟩) ?_ ?_
           rotate_left
           ·intro w'
            go_simp
            first | with_reducible rfl | (rw [if_neg (by simp only [ByteArray.size_extract, ByteArray.size_append, eq_iff_iff, iff_true, iff_false] at *; omega)])
           rotate_left
           ·simp only [Act.put, List.setIfInBounds_toArray, List.set_cons_zero, List.set_cons_succ, i64_w, i32_w]
            rfl
           refine pure_ (i := 11) (N := some 60) (v := ?_) (a' := ?_) #[true, true, true, true, true, true, true, true, true, true, true, true, false] rfl rfl (any_of HT_.out (by kernel_rfl)) (fun _ _ _ h => h) (Or.inl ⟨by rfl, ?_⟩) ?_ ?_
           rotate_left
           ·intro w'
            go_simp
            first | with_reducible rfl | (rw [if_neg (by simp only [ByteArray.size_extract, ByteArray.size_append, eq_iff_iff, iff_true, iff_false] at *; omega)])
           rotate_left
           ·simp only [Act.put, List.setIfInBounds_toArray, List.set_cons_zero, List.set_cons_succ, i64_w, i32_w]
            rfl
           refine pure_ (i := 12) (N := some 14) (v := ?_) (a' := ?_) #[true, true, true, true, true, true, true, true, true, true, true, true, true] rfl rfl (any_of HT_.out (by kernel_rfl)) (fun _ _ _ h => h) (Or.inl ⟨by rfl, ?_⟩) ?_ ?_
           rotate_left
           ·intro w'
            go_simp
            first | with_reducible rfl | (rw [if_neg (by simp only [ByteArray.size_extract, ByteArray.size_append, eq_iff_iff, iff_true, iff_false] at *; omega)])
           rotate_left
           ·simp only [Act.put, List.setIfInBounds_toArray, List.set_cons_zero, List.set_cons_succ, i64_w, i32_w]
            rfl
           refine done_ (done_of HT_.out (by kernel_rfl)) ?_
           go_upto_if 63 with (fail)
           go_cut [1] (fun v1 wc => ∃ (kq : Nat) (x1_34 : ByteArray), v1 = .string x1_34 ∧ Aside0 (drachmlaw02_both.j1 kq x1_34 t102 (((t103.extract 0 ((ji27) : Int).toNat) ++ (strOfNums y109)) ++ (t103.extract ((ji31) : Int).toNat t103.size)) = some r) ∧ Aside0 (kq ≤ kj7) ∧ Aside0 (wc.heap[gb101]? = some (.cells #[.int .i64 a0_0, .int .i64 a0_1, .int .i64 a0_2] 24 (0, 0))) ∧ Aside0 (wc.heap[gb108]? = some (.cells #[.int .i64 t104, .int .i64 t105, .int .i64 t106] 24 (0, 0))) ∧ Aside0 (Below w.heap.size w wc))
           case first =>
            have H := HC35.out
            clear HC35
            by_cases c40 : (a1.size : Int) > 60
            ·rw [if_pos c40] at H
             have c40b0 : decide (60 < (a1.size : Int)) = true := decide_eq_true c40
             have c40b1 : decide (60 < a1.size) = true := decide_eq_true (by omega)
             clear c40
             (first | rw [c40b0] | (simp only [i64_w, i32_w]; rw [c40b0]) | skip)
             by_cases c41 : 0 ≤ 60
             ·rw [if_pos c41] at H
              have c41b0 := eq_true c41
              have c41b1 : decide (0 ≤ 60) = true := decide_eq_true c41
              clear c41
              by_cases c42 : 60 ≤ (a1.size : Int)
              ·rw [if_pos c42] at H
               have c42b0 := eq_true c42
               have c42b1 : decide (60 ≤ (a1.size : Int)) = true := decide_eq_true c42
               clear c42
               have H' := Aside0.mk H
               clear H
               go_wp2
               go_meet
               case rel => exact ⟨_, (a1.extract 0 60), (by first | rfl | (simp; done) | (simp [*]; done)), H', ⟨by have := HJ7.out; first | omega | exact Nat.le_refl _⟩, ⟨kp BK101.out⟩, ⟨kp BK108.out⟩, ⟨bl HB.out⟩⟩
              ·rw [if_neg c42] at H
               exact absurd H (by simp)
             ·rw [if_neg c41] at H
              exact absurd H (by simp)
            ·rw [if_neg c40] at H
             have c40b0 : decide (60 < (a1.size : Int)) = false := decide_eq_false c40
             have c40b1 : decide (60 < a1.size) = false := decide_eq_false (by omega)
             clear c40
             (first | rw [c40b0] | (simp only [i64_w, i32_w]; rw [c40b0]) | skip)
             have H' := Aside0.mk H
             clear H
             go_wp2
             go_meet
             case rel => exact ⟨_, (a1), (by first | rfl | (simp; done) | (simp [*]; done)), H', ⟨by have := HJ7.out; first | omega | exact Nat.le_refl _⟩, ⟨kp BK101.out⟩, ⟨kp BK108.out⟩, ⟨bl HB.out⟩⟩
           case rest =>
            clear HC35
            try clear c1
            try clear c2
            try clear p2
            try clear c3
            try clear hcv3
            try clear c4
            try clear p6
            try clear c10
            try clear c15
            try clear c17
            try clear c17b0
            try clear c17b1
            try clear c18
            try clear c18b0
            try clear c19
            try clear c20
            try clear c22
            try clear c24
            try clear c25
            try clear c26
            try clear c26b0
            try clear c26b1
            try clear c28
            try clear c28b0
            try clear c28b1
            try clear c29
            try clear c29b0
            try clear c29b1
            try clear c30
            try clear c30b0
            try clear c30b1
            try clear c30b2
            try clear c32
            try clear c32b0
            try clear c32b1
            try clear c33
            try clear c33b0
            try clear c33b1
            try clear c34
            try clear c34b0
            try clear c34b1
            try clear c34b2
            try clear hcv39
            try clear c40
            try clear c40b0
            try clear c40b1
            try clear c41
            try clear c41b0
            try clear c41b1
            try clear c42
            try clear c42b0
            try clear c42b1
            try clear hcz11_0
            try clear hcz11_1
            try clear hcz11_2
            try clear hcz16_0
            try clear hcz16_1
            try clear hcz16_2
            try clear hcz20_0
            try clear hcz20_1
            try clear hcz20_2
            try clear hcz21_0
            try clear hcz21_1
            try clear hcz21_2
            try clear hcz23_0
            try clear hcz23_1
            try clear hcz23_2
            try clear hcz24_0
            try clear hcz24_1
            try clear hcz24_2
            try clear hfz11_0
            try clear hfz11_1
            try clear hfz11_2
            try clear hfz16_0
            try clear hfz16_1
            try clear hfz16_2
            try clear hfz20_0
            try clear hfz20_1
            try clear hfz20_2
            try clear hfz21_0
            try clear hfz21_1
            try clear hfz21_2
            try clear hfz23_0
            try clear hfz23_1
            try clear hfz23_2
            try clear hfz24_0
            try clear hfz24_1
            try clear hfz24_2
            try clear p2
            obtain ⟨kq, x1_34, rfl, HA, HJ34, BK101, BK108, HB⟩ := hcut
            cases kq with
            | zero => exact absurd HA.out (by simp [drachmlaw02_both.j1])
            | succ kj34 =>
             have H := HA.out
             clear HA
             simp only [drachmlaw02_both.j1] at H
             replace H := Option.bind_eq_some_iff.mp H
             obtain ⟨⟨t112, t113, t114, t115⟩, A430, H⟩ := H
             replace H : ((frac_Read.f kj34 x1_34).bind fun bt117 => (if t102 = true then (if t115 = 0 then ((frac_Text.f kj34 t112 t113 t114).bind fun t122 => (if t122.toList = (((t103.extract 0 ((ji27) : Int).toNat) ++ (strOfNums y109)) ++ (t103.extract ((ji31) : Int).toNat t103.size)).toList then ((frac_Right.f kj34 t112 t113 t114).bind fun t123 => (if t123 = true then (if bt117.2.2.2 = 0 then ((frac_Text.f kj34 bt117.1 bt117.2.1 bt117.2.2.1).bind fun t124 => (some (t124.toList == x1_34.toList))) else (some true)) else (none))) else (none))) else (if bt117.2.2.2 = 0 then ((frac_Text.f kj34 bt117.1 bt117.2.1 bt117.2.2.1).bind fun t125 => (some (t125.toList == x1_34.toList))) else (some true))) else (none))) = some r := H
             have A43 := Aside0.mk A430
             clear A430
             replace H := Option.bind_eq_some_iff.mp H
             obtain ⟨⟨t117, t118, t119, t120⟩, A440, H⟩ := H
             replace H : (if t102 = true then (if t115 = 0 then ((frac_Text.f kj34 t112 t113 t114).bind fun t122 => (if t122.toList = (((t103.extract 0 ((ji27) : Int).toNat) ++ (strOfNums y109)) ++ (t103.extract ((ji31) : Int).toNat t103.size)).toList then ((frac_Right.f kj34 t112 t113 t114).bind fun t123 => (if t123 = true then (if t120 = 0 then ((frac_Text.f kj34 t117 t118 t119).bind fun t124 => (some (t124.toList == x1_34.toList))) else (some true)) else (none))) else (none))) else (if t120 = 0 then ((frac_Text.f kj34 t117 t118 t119).bind fun t125 => (some (t125.toList == x1_34.toList))) else (some true))) else (none)) = some r := H
             have A44 := Aside0.mk A440
             clear A440
             by_cases c45 : t102 = true
             ·subst c45
              have H1 : (if t115 = 0 then ((frac_Text.f kj34 t112 t113 t114).bind fun t122 => (if t122.toList = (((t103.extract 0 ((ji27) : Int).toNat) ++ (strOfNums y109)) ++ (t103.extract ((ji31) : Int).toNat t103.size)).toList then ((frac_Right.f kj34 t112 t113 t114).bind fun t123 => (if t123 = true then (if t120 = 0 then ((frac_Text.f kj34 t117 t118 t119).bind fun t124 => (some (t124.toList == x1_34.toList))) else (some true)) else (none))) else (none))) else (if t120 = 0 then ((frac_Text.f kj34 t117 t118 t119).bind fun t125 => (some (t125.toList == x1_34.toList))) else (some true))) = some r := by rw [if_pos rfl] at H; exact H
              clear H
              have H := H1
              clear H1
              by_cases c46 : t115 = 0
              ·rw [if_pos c46] at H
               have c46b0 : (t115 == 0) = true := beq_iff_eq.mpr c46
               have c46b1 : (t115 != 0) = false := bne_eq_false_iff_eq.mpr c46
               clear c46
               replace H := Option.bind_eq_some_iff.mp H
               obtain ⟨t122, A470, H⟩ := H
               replace H : (if t122.toList = (((t103.extract 0 ((ji27) : Int).toNat) ++ (strOfNums y109)) ++ (t103.extract ((ji31) : Int).toNat t103.size)).toList then ((frac_Right.f kj34 t112 t113 t114).bind fun t123 => (if t123 = true then (if t120 = 0 then ((frac_Text.f kj34 t117 t118 t119).bind fun t124 => (some (t124.toList == x1_34.toList))) else (some true)) else (none))) else (none)) = some r := H
               have A47 := Aside0.mk A470
               clear A470
               by_cases c48 : t122.toList = (((t103.extract 0 ((ji27) : Int).toNat) ++ (strOfNums y109)) ++ (t103.extract ((ji31) : Int).toNat t103.size)).toList
               ·rw [if_pos c48] at H
                have c48b0 : (t122.toList == (((t103.extract 0 ((ji27) : Int).toNat) ++ (strOfNums y109)) ++ (t103.extract ((ji31) : Int).toNat t103.size)).toList) = true := beq_iff_eq.mpr c48
                have c48b1 : (t122.toList != (((t103.extract 0 ((ji27) : Int).toNat) ++ (strOfNums y109)) ++ (t103.extract ((ji31) : Int).toNat t103.size)).toList) = false := bne_eq_false_iff_eq.mpr c48
                clear c48
                replace H := Option.bind_eq_some_iff.mp H
                obtain ⟨t123, A490, H⟩ := H
                replace H : (if t123 = true then (if t120 = 0 then ((frac_Text.f kj34 t117 t118 t119).bind fun t124 => (some (t124.toList == x1_34.toList))) else (some true)) else (none)) = some r := H
                have A49 := Aside0.mk A490
                clear A490
                by_cases c50 : t123 = true
                ·subst c50
                 have H1 : (if t120 = 0 then ((frac_Text.f kj34 t117 t118 t119).bind fun t124 => (some (t124.toList == x1_34.toList))) else (some true)) = some r := by rw [if_pos rfl] at H; exact H
                 clear H
                 have H := H1
                 clear H1
                 by_cases c51 : t120 = 0
                 ·rw [if_pos c51] at H
                  have c51b0 : (t120 == 0) = true := beq_iff_eq.mpr c51
                  have c51b1 : (t120 != 0) = false := bne_eq_false_iff_eq.mpr c51
                  clear c51
                  replace H := Option.bind_eq_some_iff.mp H
                  obtain ⟨t124, A520, H⟩ := H
                  replace H : (some (t124.toList == x1_34.toList)) = some r := H
                  have A52 := Aside0.mk A520
                  clear A520
                  obtain rfl := Option.some.inj H
                  go_wp2_with (first | ((with_reducible refine gate_callee (f := 20) rfl ?_); refine goesL_ (some 68) rfl rfl Tryd.func20 (by kernel_rfl) rfl #[.string (((t103.extract 0 ((ji27) : Int).toNat) ++ (strOfNums y109)) ++ (t103.extract ((ji31) : Int).toNat t103.size))] rfl (by (try simp only [List.map_toArray, List.map_cons, List.map_nil]); first | done | (simp only [hji27, hji31]; rfl) | rfl | (simp only [List.length_drop, List.length_take]; rfl)) ?_; (with_reducible refine (frac_Read.calls kj34 (((t103.extract 0 ((ji27) : Int).toNat) ++ (strOfNums y109)) ++ (t103.extract ((ji31) : Int).toNat t103.size)) t112 t113 t114 t115 _ (Glob.use hG (by decide) (bl HB.out)) A43.out).mono ?_); rintro e w53 ⟨rfl, hb⟩; refine ⟨_, rfl, ?_⟩; replace BK101 := Aside0.mk (blk_below (kp BK101.out) hb); replace BK108 := Aside0.mk (blk_below (kp BK108.out) hb); replace HB := Aside0.mk (below_step (bl HB.out) hb); (try clear hb); (try clear hb2); (try clear hk); (try clear hi)) | ((with_reducible refine gate_dst (N := 15) rfl ?_); (try (refine gate_guard (by rfl) ?_; dsimp only)); refine box_event ?hg (N := 15) ?hd (cs := #[.int .i64 0, .int .i64 0, .int .i64 0]) (t := 24) ?hr ?_; (case hd => rfl); (case hg => rfl); (case hr => first | (go_simp; done) | (go_simp; rfl)); intro gb116 hg w54 hbox hb; have n0_ := Aside0.mk (blk_below (kp BK101.out) hb); have n1_ := Aside0.mk (blk_below (kp BK108.out) hb); have n2_ := Aside0.mk (below_step (bl HB.out) hb); have n3_ := Aside0.mk (hbox); have n4_ := Aside0.mk ((by rw [hg]; exact (below_size (bl HB.out)) : w.heap.size ≤ gb116)); have n5_ := Aside0.mk ((by rw [hg]; exact (below_size (bl HB.out)) : w.heap.size ≤ gb116)); have n6_ := Aside0.mk ((by rw [hg]; exact Nat.ne_of_lt (blk_lt (kp BK101.out)) : gb101 ≠ gb116)); have n7_ := Aside0.mk ((by rw [hg]; exact Nat.ne_of_gt (blk_lt (kp BK101.out)) : gb116 ≠ gb101)); have n8_ := Aside0.mk ((by rw [hg]; exact Nat.ne_of_lt (blk_lt (kp BK108.out)) : gb108 ≠ gb116)); have n9_ := Aside0.mk ((by rw [hg]; exact Nat.ne_of_gt (blk_lt (kp BK108.out)) : gb116 ≠ gb108)); clear BK101; clear BK108; clear HB; have BK101 := n0_; have BK108 := n1_; have HB := n2_; have BK116 := n3_; have GW116 := n4_; have GE116 := n5_; have NB101_116 := n6_; have NB116_101 := n7_; have NB108_116 := n8_; have NB116_108 := n9_; clear n0_ n1_ n2_ n3_ n4_ n5_ n6_ n7_ n8_ n9_; clear hb hbox hg; have hnb55 := NB116_101.out; have hnc55 := NB101_116.out; have hnb56 := NB116_108.out; have hnc56 := NB108_116.out; obtain ⟨hcz57_0, hcz57_1, hcz57_2⟩ := hc3 BK116.out; obtain ⟨hfz57_0, hfz57_1, hfz57_2⟩ := hf3 BK116.out) | ((with_reducible refine gate_callee (f := 20) rfl ?_); refine goesL_ (some 73) rfl rfl Tryd.func20 (by kernel_rfl) rfl #[.string x1_34] rfl (by (try simp only [List.map_toArray, List.map_cons, List.map_nil]); first | done | rfl | (simp only [List.length_drop, List.length_take]; rfl)) ?_; (with_reducible refine (frac_Read.calls kj34 x1_34 t117 t118 t119 t120 _ (Glob.use hG (by decide) (bl HB.out)) A44.out).mono ?_); rintro e w58 ⟨rfl, hb⟩; refine ⟨_, rfl, ?_⟩; replace BK101 := Aside0.mk (blk_below (kp BK101.out) hb); replace BK108 := Aside0.mk (blk_below (kp BK108.out) hb); replace BK116 := Aside0.mk (blk_below (kp (p3_2 (kp (p3_1 (kp (p3_0 (kp BK116.out))))))) hb); replace HB := Aside0.mk (below_step (bl HB.out) hb); (try clear hb); (try clear hb2); (try clear hk); (try clear hi)) | ((with_reducible refine gate_dst (N := 17) rfl ?_); (try (refine gate_guard (by rfl) ?_; dsimp only)); refine box_event ?hg (N := 17) ?hd (cs := #[.int .i64 0, .int .i64 0, .int .i64 0]) (t := 24) ?hr ?_; (case hd => rfl); (case hg => rfl); (case hr => first | (go_simp; done) | (go_simp; rfl)); intro gb121 hg w59 hbox hb; have n0_ := Aside0.mk (blk_below (kp BK101.out) hb); have n1_ := Aside0.mk (blk_below (kp BK108.out) hb); have n2_ := Aside0.mk (blk_below (kp BK116.out) hb); have n3_ := Aside0.mk (below_step (bl HB.out) hb); have n4_ := Aside0.mk (hbox); have n5_ := Aside0.mk ((by rw [hg]; exact (below_size (bl HB.out)) : w.heap.size ≤ gb121)); have n6_ := Aside0.mk ((by rw [hg]; exact (below_size (bl HB.out)) : w.heap.size ≤ gb121)); have n7_ := Aside0.mk ((by rw [hg]; exact Nat.ne_of_lt (blk_lt (kp BK101.out)) : gb101 ≠ gb121)); have n8_ := Aside0.mk ((by rw [hg]; exact Nat.ne_of_gt (blk_lt (kp BK101.out)) : gb121 ≠ gb101)); have n9_ := Aside0.mk ((by rw [hg]; exact Nat.ne_of_lt (blk_lt (kp BK108.out)) : gb108 ≠ gb121)); have n10_ := Aside0.mk ((by rw [hg]; exact Nat.ne_of_gt (blk_lt (kp BK108.out)) : gb121 ≠ gb108)); have n11_ := Aside0.mk ((by rw [hg]; exact Nat.ne_of_lt (blk_lt (kp BK116.out)) : gb116 ≠ gb121)); have n12_ := Aside0.mk ((by rw [hg]; exact Nat.ne_of_gt (blk_lt (kp BK116.out)) : gb121 ≠ gb116)); clear BK101; clear BK108; clear BK116; clear HB; have BK101 := n0_; have BK108 := n1_; have BK116 := n2_; have HB := n3_; have BK121 := n4_; have GW121 := n5_; have GE121 := n6_; have NB101_121 := n7_; have NB121_101 := n8_; have NB108_121 := n9_; have NB121_108 := n10_; have NB116_121 := n11_; have NB121_116 := n12_; clear n0_ n1_ n2_ n3_ n4_ n5_ n6_ n7_ n8_ n9_ n10_ n11_ n12_; clear hb hbox hg; have hnb60 := NB121_101.out; have hnc60 := NB101_121.out; have hnb61 := NB121_108.out; have hnc61 := NB108_121.out; have hnb62 := NB121_116.out; have hnc62 := NB116_121.out; obtain ⟨hcz63_0, hcz63_1, hcz63_2⟩ := hc3 BK121.out; obtain ⟨hfz63_0, hfz63_1, hfz63_2⟩ := hf3 BK121.out; obtain ⟨hcz64_0, hcz64_1, hcz64_2⟩ := hc3 BK116.out; obtain ⟨hfz64_0, hfz64_1, hfz64_2⟩ := hf3 BK116.out) | (go_at_call 22; (with_reducible refine (frac_Text.calls kj34 t112 t113 t114 t122 _ (Glob.use hG (by decide) (bl HB.out)) A47.out).mono ?_); rintro e w65 ⟨rfl, hb⟩; replace BK101 := Aside0.mk (blk_below (kp BK101.out) hb); replace BK108 := Aside0.mk (blk_below (kp BK108.out) hb); replace BK116 := Aside0.mk (blk_below (kp BK116.out) hb); replace BK121 := Aside0.mk (blk_below (kp (p3_2 (kp (p3_1 (kp (p3_0 (kp BK121.out))))))) hb); replace HB := Aside0.mk (below_step (bl HB.out) hb); (try clear hb); (try clear hb2); (try clear hk); (try clear hi); obtain ⟨hcz66_0, hcz66_1, hcz66_2⟩ := hc3 BK116.out; obtain ⟨hfz66_0, hfz66_1, hfz66_2⟩ := hf3 BK116.out) | (go_at_call 13; (with_reducible refine (frac_Right.calls kj34 t112 t113 t114 true _ A49.out).mono ?_); rintro e w67 ⟨rfl, hb⟩; replace BK101 := Aside0.mk (blk_below (kp BK101.out) hb); replace BK108 := Aside0.mk (blk_below (kp BK108.out) hb); replace BK116 := Aside0.mk (blk_below (kp BK116.out) hb); replace BK121 := Aside0.mk (blk_below (kp BK121.out) hb); replace HB := Aside0.mk (below_step (bl HB.out) hb); (try clear hb); (try clear hb2); (try clear hk); (try clear hi); obtain ⟨hcz68_0, hcz68_1, hcz68_2⟩ := hc3 BK121.out; obtain ⟨hfz68_0, hfz68_1, hfz68_2⟩ := hf3 BK121.out) | (go_at_call 22; (with_reducible refine (frac_Text.calls kj34 t117 t118 t119 t124 _ (Glob.use hG (by decide) (bl HB.out)) A52.out).mono ?_); rintro e w69 ⟨rfl, hb⟩; replace BK101 := Aside0.mk (blk_below (kp BK101.out) hb); replace BK108 := Aside0.mk (blk_below (kp BK108.out) hb); replace BK116 := Aside0.mk (blk_below (kp BK116.out) hb); replace BK121 := Aside0.mk (blk_below (kp BK121.out) hb); replace HB := Aside0.mk (below_step (bl HB.out) hb); (try clear hb); (try clear hb2); (try clear hk); (try clear hi)))
                  go_ret
                  exact ⟨by first | rfl | (simp [errW_none, errW_some] <;> rfl) | (simp only [← hji27, ← hji31]; first | rfl | (simp [errW_none, errW_some] <;> rfl)) | (simp [*, errW_none, errW_some] <;> rfl), bl HB.out⟩
                 ·rw [if_neg c51] at H
                  have c51b0 : (t120 == 0) = false := beq_eq_false_iff_ne.mpr c51
                  have c51b1 : (t120 != 0) = true := bne_iff_ne.mpr c51
                  obtain rfl := Option.some.inj H
                  go_wp2_with (first | ((with_reducible refine gate_callee (f := 20) rfl ?_); refine goesL_ (some 68) rfl rfl Tryd.func20 (by kernel_rfl) rfl #[.string (((t103.extract 0 ((ji27) : Int).toNat) ++ (strOfNums y109)) ++ (t103.extract ((ji31) : Int).toNat t103.size))] rfl (by (try simp only [List.map_toArray, List.map_cons, List.map_nil]); first | done | (simp only [hji27, hji31]; rfl) | rfl | (simp only [List.length_drop, List.length_take]; rfl)) ?_; (with_reducible refine (frac_Read.calls kj34 (((t103.extract 0 ((ji27) : Int).toNat) ++ (strOfNums y109)) ++ (t103.extract ((ji31) : Int).toNat t103.size)) t112 t113 t114 t115 _ (Glob.use hG (by decide) (bl HB.out)) A43.out).mono ?_); rintro e w70 ⟨rfl, hb⟩; refine ⟨_, rfl, ?_⟩; replace BK101 := Aside0.mk (blk_below (kp BK101.out) hb); replace BK108 := Aside0.mk (blk_below (kp BK108.out) hb); replace HB := Aside0.mk (below_step (bl HB.out) hb); (try clear hb); (try clear hb2); (try clear hk); (try clear hi)) | ((with_reducible refine gate_dst (N := 15) rfl ?_); (try (refine gate_guard (by rfl) ?_; dsimp only)); refine box_event ?hg (N := 15) ?hd (cs := #[.int .i64 0, .int .i64 0, .int .i64 0]) (t := 24) ?hr ?_; (case hd => rfl); (case hg => rfl); (case hr => first | (go_simp; done) | (go_simp; rfl)); intro gb116 hg w71 hbox hb; have n0_ := Aside0.mk (blk_below (kp BK101.out) hb); have n1_ := Aside0.mk (blk_below (kp BK108.out) hb); have n2_ := Aside0.mk (below_step (bl HB.out) hb); have n3_ := Aside0.mk (hbox); have n4_ := Aside0.mk ((by rw [hg]; exact (below_size (bl HB.out)) : w.heap.size ≤ gb116)); have n5_ := Aside0.mk ((by rw [hg]; exact (below_size (bl HB.out)) : w.heap.size ≤ gb116)); have n6_ := Aside0.mk ((by rw [hg]; exact Nat.ne_of_lt (blk_lt (kp BK101.out)) : gb101 ≠ gb116)); have n7_ := Aside0.mk ((by rw [hg]; exact Nat.ne_of_gt (blk_lt (kp BK101.out)) : gb116 ≠ gb101)); have n8_ := Aside0.mk ((by rw [hg]; exact Nat.ne_of_lt (blk_lt (kp BK108.out)) : gb108 ≠ gb116)); have n9_ := Aside0.mk ((by rw [hg]; exact Nat.ne_of_gt (blk_lt (kp BK108.out)) : gb116 ≠ gb108)); clear BK101; clear BK108; clear HB; have BK101 := n0_; have BK108 := n1_; have HB := n2_; have BK116 := n3_; have GW116 := n4_; have GE116 := n5_; have NB101_116 := n6_; have NB116_101 := n7_; have NB108_116 := n8_; have NB116_108 := n9_; clear n0_ n1_ n2_ n3_ n4_ n5_ n6_ n7_ n8_ n9_; clear hb hbox hg; have hnb72 := NB116_101.out; have hnc72 := NB101_116.out; have hnb73 := NB116_108.out; have hnc73 := NB108_116.out; obtain ⟨hcz74_0, hcz74_1, hcz74_2⟩ := hc3 BK116.out; obtain ⟨hfz74_0, hfz74_1, hfz74_2⟩ := hf3 BK116.out) | ((with_reducible refine gate_callee (f := 20) rfl ?_); refine goesL_ (some 73) rfl rfl Tryd.func20 (by kernel_rfl) rfl #[.string x1_34] rfl (by (try simp only [List.map_toArray, List.map_cons, List.map_nil]); first | done | rfl | (simp only [List.length_drop, List.length_take]; rfl)) ?_; (with_reducible refine (frac_Read.calls kj34 x1_34 t117 t118 t119 t120 _ (Glob.use hG (by decide) (bl HB.out)) A44.out).mono ?_); rintro e w75 ⟨rfl, hb⟩; refine ⟨_, rfl, ?_⟩; replace BK101 := Aside0.mk (blk_below (kp BK101.out) hb); replace BK108 := Aside0.mk (blk_below (kp BK108.out) hb); replace BK116 := Aside0.mk (blk_below (kp (p3_2 (kp (p3_1 (kp (p3_0 (kp BK116.out))))))) hb); replace HB := Aside0.mk (below_step (bl HB.out) hb); (try clear hb); (try clear hb2); (try clear hk); (try clear hi)) | ((with_reducible refine gate_dst (N := 17) rfl ?_); (try (refine gate_guard (by rfl) ?_; dsimp only)); refine box_event ?hg (N := 17) ?hd (cs := #[.int .i64 0, .int .i64 0, .int .i64 0]) (t := 24) ?hr ?_; (case hd => rfl); (case hg => rfl); (case hr => first | (go_simp; done) | (go_simp; rfl)); intro gb121 hg w76 hbox hb; have n0_ := Aside0.mk (blk_below (kp BK101.out) hb); have n1_ := Aside0.mk (blk_below (kp BK108.out) hb); have n2_ := Aside0.mk (blk_below (kp BK116.out) hb); have n3_ := Aside0.mk (below_step (bl HB.out) hb); have n4_ := Aside0.mk (hbox); have n5_ := Aside0.mk ((by rw [hg]; exact (below_size (bl HB.out)) : w.heap.size ≤ gb121)); have n6_ := Aside0.mk ((by rw [hg]; exact (below_size (bl HB.out)) : w.heap.size ≤ gb121)); have n7_ := Aside0.mk ((by rw [hg]; exact Nat.ne_of_lt (blk_lt (kp BK101.out)) : gb101 ≠ gb121)); have n8_ := Aside0.mk ((by rw [hg]; exact Nat.ne_of_gt (blk_lt (kp BK101.out)) : gb121 ≠ gb101)); have n9_ := Aside0.mk ((by rw [hg]; exact Nat.ne_of_lt (blk_lt (kp BK108.out)) : gb108 ≠ gb121)); have n10_ := Aside0.mk ((by rw [hg]; exact Nat.ne_of_gt (blk_lt (kp BK108.out)) : gb121 ≠ gb108)); have n11_ := Aside0.mk ((by rw [hg]; exact Nat.ne_of_lt (blk_lt (kp BK116.out)) : gb116 ≠ gb121)); have n12_ := Aside0.mk ((by rw [hg]; exact Nat.ne_of_gt (blk_lt (kp BK116.out)) : gb121 ≠ gb116)); clear BK101; clear BK108; clear BK116; clear HB; have BK101 := n0_; have BK108 := n1_; have BK116 := n2_; have HB := n3_; have BK121 := n4_; have GW121 := n5_; have GE121 := n6_; have NB101_121 := n7_; have NB121_101 := n8_; have NB108_121 := n9_; have NB121_108 := n10_; have NB116_121 := n11_; have NB121_116 := n12_; clear n0_ n1_ n2_ n3_ n4_ n5_ n6_ n7_ n8_ n9_ n10_ n11_ n12_; clear hb hbox hg; have hnb77 := NB121_101.out; have hnc77 := NB101_121.out; have hnb78 := NB121_108.out; have hnc78 := NB108_121.out; have hnb79 := NB121_116.out; have hnc79 := NB116_121.out; obtain ⟨hcz80_0, hcz80_1, hcz80_2⟩ := hc3 BK121.out; obtain ⟨hfz80_0, hfz80_1, hfz80_2⟩ := hf3 BK121.out; obtain ⟨hcz81_0, hcz81_1, hcz81_2⟩ := hc3 BK116.out; obtain ⟨hfz81_0, hfz81_1, hfz81_2⟩ := hf3 BK116.out) | (go_at_call 22; (with_reducible refine (frac_Text.calls kj34 t112 t113 t114 t122 _ (Glob.use hG (by decide) (bl HB.out)) A47.out).mono ?_); rintro e w82 ⟨rfl, hb⟩; replace BK101 := Aside0.mk (blk_below (kp BK101.out) hb); replace BK108 := Aside0.mk (blk_below (kp BK108.out) hb); replace BK116 := Aside0.mk (blk_below (kp BK116.out) hb); replace BK121 := Aside0.mk (blk_below (kp (p3_2 (kp (p3_1 (kp (p3_0 (kp BK121.out))))))) hb); replace HB := Aside0.mk (below_step (bl HB.out) hb); (try clear hb); (try clear hb2); (try clear hk); (try clear hi); obtain ⟨hcz83_0, hcz83_1, hcz83_2⟩ := hc3 BK116.out; obtain ⟨hfz83_0, hfz83_1, hfz83_2⟩ := hf3 BK116.out) | (go_at_call 13; (with_reducible refine (frac_Right.calls kj34 t112 t113 t114 true _ A49.out).mono ?_); rintro e w84 ⟨rfl, hb⟩; replace BK101 := Aside0.mk (blk_below (kp BK101.out) hb); replace BK108 := Aside0.mk (blk_below (kp BK108.out) hb); replace BK116 := Aside0.mk (blk_below (kp BK116.out) hb); replace BK121 := Aside0.mk (blk_below (kp BK121.out) hb); replace HB := Aside0.mk (below_step (bl HB.out) hb); (try clear hb); (try clear hb2); (try clear hk); (try clear hi)))
                  go_ret
                  exact ⟨by first | rfl | (simp [errW_none, errW_some] <;> rfl) | (simp only [← hji27, ← hji31]; first | rfl | (simp [errW_none, errW_some] <;> rfl)) | (simp [*, errW_none, errW_some] <;> rfl), bl HB.out⟩
                ·replace c50 := Bool.eq_false_iff.mpr c50
                 subst c50
                 have H1 : (none) = some r := by rw [if_neg (show ¬ (false = true) by decide)] at H; exact H
                 clear H
                 have H := H1
                 clear H1
                 exact absurd H (by simp)
               ·rw [if_neg c48] at H
                exact absurd H (by simp)
              ·rw [if_neg c46] at H
               have c46b0 : (t115 == 0) = false := beq_eq_false_iff_ne.mpr c46
               have c46b1 : (t115 != 0) = true := bne_iff_ne.mpr c46
               by_cases c85 : t120 = 0
               ·rw [if_pos c85] at H
                have c85b0 : (t120 == 0) = true := beq_iff_eq.mpr c85
                have c85b1 : (t120 != 0) = false := bne_eq_false_iff_eq.mpr c85
                clear c85
                replace H := Option.bind_eq_some_iff.mp H
                obtain ⟨t125, A860, H⟩ := H
                replace H : (some (t125.toList == x1_34.toList)) = some r := H
                have A86 := Aside0.mk A860
                clear A860
                obtain rfl := Option.some.inj H
                go_wp2_with (first | ((with_reducible refine gate_callee (f := 20) rfl ?_); refine goesL_ (some 68) rfl rfl Tryd.func20 (by kernel_rfl) rfl #[.string (((t103.extract 0 ((ji27) : Int).toNat) ++ (strOfNums y109)) ++ (t103.extract ((ji31) : Int).toNat t103.size))] rfl (by (try simp only [List.map_toArray, List.map_cons, List.map_nil]); first | done | (simp only [hji27, hji31]; rfl) | rfl | (simp only [List.length_drop, List.length_take]; rfl)) ?_; (with_reducible refine (frac_Read.calls kj34 (((t103.extract 0 ((ji27) : Int).toNat) ++ (strOfNums y109)) ++ (t103.extract ((ji31) : Int).toNat t103.size)) t112 t113 t114 t115 _ (Glob.use hG (by decide) (bl HB.out)) A43.out).mono ?_); rintro e w87 ⟨rfl, hb⟩; refine ⟨_, rfl, ?_⟩; replace BK101 := Aside0.mk (blk_below (kp BK101.out) hb); replace BK108 := Aside0.mk (blk_below (kp BK108.out) hb); replace HB := Aside0.mk (below_step (bl HB.out) hb); (try clear hb); (try clear hb2); (try clear hk); (try clear hi)) | ((with_reducible refine gate_dst (N := 15) rfl ?_); (try (refine gate_guard (by rfl) ?_; dsimp only)); refine box_event ?hg (N := 15) ?hd (cs := #[.int .i64 0, .int .i64 0, .int .i64 0]) (t := 24) ?hr ?_; (case hd => rfl); (case hg => rfl); (case hr => first | (go_simp; done) | (go_simp; rfl)); intro gb116 hg w88 hbox hb; have n0_ := Aside0.mk (blk_below (kp BK101.out) hb); have n1_ := Aside0.mk (blk_below (kp BK108.out) hb); have n2_ := Aside0.mk (below_step (bl HB.out) hb); have n3_ := Aside0.mk (hbox); have n4_ := Aside0.mk ((by rw [hg]; exact (below_size (bl HB.out)) : w.heap.size ≤ gb116)); have n5_ := Aside0.mk ((by rw [hg]; exact (below_size (bl HB.out)) : w.heap.size ≤ gb116)); have n6_ := Aside0.mk ((by rw [hg]; exact Nat.ne_of_lt (blk_lt (kp BK101.out)) : gb101 ≠ gb116)); have n7_ := Aside0.mk ((by rw [hg]; exact Nat.ne_of_gt (blk_lt (kp BK101.out)) : gb116 ≠ gb101)); have n8_ := Aside0.mk ((by rw [hg]; exact Nat.ne_of_lt (blk_lt (kp BK108.out)) : gb108 ≠ gb116)); have n9_ := Aside0.mk ((by rw [hg]; exact Nat.ne_of_gt (blk_lt (kp BK108.out)) : gb116 ≠ gb108)); clear BK101; clear BK108; clear HB; have BK101 := n0_; have BK108 := n1_; have HB := n2_; have BK116 := n3_; have GW116 := n4_; have GE116 := n5_; have NB101_116 := n6_; have NB116_101 := n7_; have NB108_116 := n8_; have NB116_108 := n9_; clear n0_ n1_ n2_ n3_ n4_ n5_ n6_ n7_ n8_ n9_; clear hb hbox hg; have hnb89 := NB116_101.out; have hnc89 := NB101_116.out; have hnb90 := NB116_108.out; have hnc90 := NB108_116.out; obtain ⟨hcz91_0, hcz91_1, hcz91_2⟩ := hc3 BK116.out; obtain ⟨hfz91_0, hfz91_1, hfz91_2⟩ := hf3 BK116.out) | ((with_reducible refine gate_callee (f := 20) rfl ?_); refine goesL_ (some 73) rfl rfl Tryd.func20 (by kernel_rfl) rfl #[.string x1_34] rfl (by (try simp only [List.map_toArray, List.map_cons, List.map_nil]); first | done | rfl | (simp only [List.length_drop, List.length_take]; rfl)) ?_; (with_reducible refine (frac_Read.calls kj34 x1_34 t117 t118 t119 t120 _ (Glob.use hG (by decide) (bl HB.out)) A44.out).mono ?_); rintro e w92 ⟨rfl, hb⟩; refine ⟨_, rfl, ?_⟩; replace BK101 := Aside0.mk (blk_below (kp BK101.out) hb); replace BK108 := Aside0.mk (blk_below (kp BK108.out) hb); replace BK116 := Aside0.mk (blk_below (kp (p3_2 (kp (p3_1 (kp (p3_0 (kp BK116.out))))))) hb); replace HB := Aside0.mk (below_step (bl HB.out) hb); (try clear hb); (try clear hb2); (try clear hk); (try clear hi)) | ((with_reducible refine gate_dst (N := 17) rfl ?_); (try (refine gate_guard (by rfl) ?_; dsimp only)); refine box_event ?hg (N := 17) ?hd (cs := #[.int .i64 0, .int .i64 0, .int .i64 0]) (t := 24) ?hr ?_; (case hd => rfl); (case hg => rfl); (case hr => first | (go_simp; done) | (go_simp; rfl)); intro gb121 hg w93 hbox hb; have n0_ := Aside0.mk (blk_below (kp BK101.out) hb); have n1_ := Aside0.mk (blk_below (kp BK108.out) hb); have n2_ := Aside0.mk (blk_below (kp BK116.out) hb); have n3_ := Aside0.mk (below_step (bl HB.out) hb); have n4_ := Aside0.mk (hbox); have n5_ := Aside0.mk ((by rw [hg]; exact (below_size (bl HB.out)) : w.heap.size ≤ gb121)); have n6_ := Aside0.mk ((by rw [hg]; exact (below_size (bl HB.out)) : w.heap.size ≤ gb121)); have n7_ := Aside0.mk ((by rw [hg]; exact Nat.ne_of_lt (blk_lt (kp BK101.out)) : gb101 ≠ gb121)); have n8_ := Aside0.mk ((by rw [hg]; exact Nat.ne_of_gt (blk_lt (kp BK101.out)) : gb121 ≠ gb101)); have n9_ := Aside0.mk ((by rw [hg]; exact Nat.ne_of_lt (blk_lt (kp BK108.out)) : gb108 ≠ gb121)); have n10_ := Aside0.mk ((by rw [hg]; exact Nat.ne_of_gt (blk_lt (kp BK108.out)) : gb121 ≠ gb108)); have n11_ := Aside0.mk ((by rw [hg]; exact Nat.ne_of_lt (blk_lt (kp BK116.out)) : gb116 ≠ gb121)); have n12_ := Aside0.mk ((by rw [hg]; exact Nat.ne_of_gt (blk_lt (kp BK116.out)) : gb121 ≠ gb116)); clear BK101; clear BK108; clear BK116; clear HB; have BK101 := n0_; have BK108 := n1_; have BK116 := n2_; have HB := n3_; have BK121 := n4_; have GW121 := n5_; have GE121 := n6_; have NB101_121 := n7_; have NB121_101 := n8_; have NB108_121 := n9_; have NB121_108 := n10_; have NB116_121 := n11_; have NB121_116 := n12_; clear n0_ n1_ n2_ n3_ n4_ n5_ n6_ n7_ n8_ n9_ n10_ n11_ n12_; clear hb hbox hg; have hnb94 := NB121_101.out; have hnc94 := NB101_121.out; have hnb95 := NB121_108.out; have hnc95 := NB108_121.out; have hnb96 := NB121_116.out; have hnc96 := NB116_121.out; obtain ⟨hcz97_0, hcz97_1, hcz97_2⟩ := hc3 BK121.out; obtain ⟨hfz97_0, hfz97_1, hfz97_2⟩ := hf3 BK121.out) | (go_at_call 22; (with_reducible refine (frac_Text.calls kj34 t117 t118 t119 t125 _ (Glob.use hG (by decide) (bl HB.out)) A86.out).mono ?_); rintro e w98 ⟨rfl, hb⟩; replace BK101 := Aside0.mk (blk_below (kp BK101.out) hb); replace BK108 := Aside0.mk (blk_below (kp BK108.out) hb); replace BK116 := Aside0.mk (blk_below (kp BK116.out) hb); replace BK121 := Aside0.mk (blk_below (kp (p3_2 (kp (p3_1 (kp (p3_0 (kp BK121.out))))))) hb); replace HB := Aside0.mk (below_step (bl HB.out) hb); (try clear hb); (try clear hb2); (try clear hk); (try clear hi)))
                go_ret
                exact ⟨by first | rfl | (simp [errW_none, errW_some] <;> rfl) | (simp only [← hji27, ← hji31]; first | rfl | (simp [errW_none, errW_some] <;> rfl)) | (simp [*, errW_none, errW_some] <;> rfl), bl HB.out⟩
               ·rw [if_neg c85] at H
                have c85b0 : (t120 == 0) = false := beq_eq_false_iff_ne.mpr c85
                have c85b1 : (t120 != 0) = true := bne_iff_ne.mpr c85
                obtain rfl := Option.some.inj H
                go_wp2_with (first | ((with_reducible refine gate_callee (f := 20) rfl ?_); refine goesL_ (some 68) rfl rfl Tryd.func20 (by kernel_rfl) rfl #[.string (((t103.extract 0 ((ji27) : Int).toNat) ++ (strOfNums y109)) ++ (t103.extract ((ji31) : Int).toNat t103.size))] rfl (by (try simp only [List.map_toArray, List.map_cons, List.map_nil]); first | done | (simp only [hji27, hji31]; rfl) | rfl | (simp only [List.length_drop, List.length_take]; rfl)) ?_; (with_reducible refine (frac_Read.calls kj34 (((t103.extract 0 ((ji27) : Int).toNat) ++ (strOfNums y109)) ++ (t103.extract ((ji31) : Int).toNat t103.size)) t112 t113 t114 t115 _ (Glob.use hG (by decide) (bl HB.out)) A43.out).mono ?_); rintro e w99 ⟨rfl, hb⟩; refine ⟨_, rfl, ?_⟩; replace BK101 := Aside0.mk (blk_below (kp BK101.out) hb); replace BK108 := Aside0.mk (blk_below (kp BK108.out) hb); replace HB := Aside0.mk (below_step (bl HB.out) hb); (try clear hb); (try clear hb2); (try clear hk); (try clear hi)) | ((with_reducible refine gate_dst (N := 15) rfl ?_); (try (refine gate_guard (by rfl) ?_; dsimp only)); refine box_event ?hg (N := 15) ?hd (cs := #[.int .i64 0, .int .i64 0, .int .i64 0]) (t := 24) ?hr ?_; (case hd => rfl); (case hg => rfl); (case hr => first | (go_simp; done) | (go_simp; rfl)); intro gb116 hg w100 hbox hb; have n0_ := Aside0.mk (blk_below (kp BK101.out) hb); have n1_ := Aside0.mk (blk_below (kp BK108.out) hb); have n2_ := Aside0.mk (below_step (bl HB.out) hb); have n3_ := Aside0.mk (hbox); have n4_ := Aside0.mk ((by rw [hg]; exact (below_size (bl HB.out)) : w.heap.size ≤ gb116)); have n5_ := Aside0.mk ((by rw [hg]; exact (below_size (bl HB.out)) : w.heap.size ≤ gb116)); have n6_ := Aside0.mk ((by rw [hg]; exact Nat.ne_of_lt (blk_lt (kp BK101.out)) : gb101 ≠ gb116)); have n7_ := Aside0.mk ((by rw [hg]; exact Nat.ne_of_gt (blk_lt (kp BK101.out)) : gb116 ≠ gb101)); have n8_ := Aside0.mk ((by rw [hg]; exact Nat.ne_of_lt (blk_lt (kp BK108.out)) : gb108 ≠ gb116)); have n9_ := Aside0.mk ((by rw [hg]; exact Nat.ne_of_gt (blk_lt (kp BK108.out)) : gb116 ≠ gb108)); clear BK101; clear BK108; clear HB; have BK101 := n0_; have BK108 := n1_; have HB := n2_; have BK116 := n3_; have GW116 := n4_; have GE116 := n5_; have NB101_116 := n6_; have NB116_101 := n7_; have NB108_116 := n8_; have NB116_108 := n9_; clear n0_ n1_ n2_ n3_ n4_ n5_ n6_ n7_ n8_ n9_; clear hb hbox hg; have hnb101 := NB116_101.out; have hnc101 := NB101_116.out; have hnb102 := NB116_108.out; have hnc102 := NB108_116.out; obtain ⟨hcz103_0, hcz103_1, hcz103_2⟩ := hc3 BK116.out; obtain ⟨hfz103_0, hfz103_1, hfz103_2⟩ := hf3 BK116.out) | ((with_reducible refine gate_callee (f := 20) rfl ?_); refine goesL_ (some 73) rfl rfl Tryd.func20 (by kernel_rfl) rfl #[.string x1_34] rfl (by (try simp only [List.map_toArray, List.map_cons, List.map_nil]); first | done | rfl | (simp only [List.length_drop, List.length_take]; rfl)) ?_; (with_reducible refine (frac_Read.calls kj34 x1_34 t117 t118 t119 t120 _ (Glob.use hG (by decide) (bl HB.out)) A44.out).mono ?_); rintro e w104 ⟨rfl, hb⟩; refine ⟨_, rfl, ?_⟩; replace BK101 := Aside0.mk (blk_below (kp BK101.out) hb); replace BK108 := Aside0.mk (blk_below (kp BK108.out) hb); replace BK116 := Aside0.mk (blk_below (kp (p3_2 (kp (p3_1 (kp (p3_0 (kp BK116.out))))))) hb); replace HB := Aside0.mk (below_step (bl HB.out) hb); (try clear hb); (try clear hb2); (try clear hk); (try clear hi)) | ((with_reducible refine gate_dst (N := 17) rfl ?_); (try (refine gate_guard (by rfl) ?_; dsimp only)); refine box_event ?hg (N := 17) ?hd (cs := #[.int .i64 0, .int .i64 0, .int .i64 0]) (t := 24) ?hr ?_; (case hd => rfl); (case hg => rfl); (case hr => first | (go_simp; done) | (go_simp; rfl)); intro gb121 hg w105 hbox hb; have n0_ := Aside0.mk (blk_below (kp BK101.out) hb); have n1_ := Aside0.mk (blk_below (kp BK108.out) hb); have n2_ := Aside0.mk (blk_below (kp BK116.out) hb); have n3_ := Aside0.mk (below_step (bl HB.out) hb); have n4_ := Aside0.mk (hbox); have n5_ := Aside0.mk ((by rw [hg]; exact (below_size (bl HB.out)) : w.heap.size ≤ gb121)); have n6_ := Aside0.mk ((by rw [hg]; exact (below_size (bl HB.out)) : w.heap.size ≤ gb121)); have n7_ := Aside0.mk ((by rw [hg]; exact Nat.ne_of_lt (blk_lt (kp BK101.out)) : gb101 ≠ gb121)); have n8_ := Aside0.mk ((by rw [hg]; exact Nat.ne_of_gt (blk_lt (kp BK101.out)) : gb121 ≠ gb101)); have n9_ := Aside0.mk ((by rw [hg]; exact Nat.ne_of_lt (blk_lt (kp BK108.out)) : gb108 ≠ gb121)); have n10_ := Aside0.mk ((by rw [hg]; exact Nat.ne_of_gt (blk_lt (kp BK108.out)) : gb121 ≠ gb108)); have n11_ := Aside0.mk ((by rw [hg]; exact Nat.ne_of_lt (blk_lt (kp BK116.out)) : gb116 ≠ gb121)); have n12_ := Aside0.mk ((by rw [hg]; exact Nat.ne_of_gt (blk_lt (kp BK116.out)) : gb121 ≠ gb116)); clear BK101; clear BK108; clear BK116; clear HB; have BK101 := n0_; have BK108 := n1_; have BK116 := n2_; have HB := n3_; have BK121 := n4_; have GW121 := n5_; have GE121 := n6_; have NB101_121 := n7_; have NB121_101 := n8_; have NB108_121 := n9_; have NB121_108 := n10_; have NB116_121 := n11_; have NB121_116 := n12_; clear n0_ n1_ n2_ n3_ n4_ n5_ n6_ n7_ n8_ n9_ n10_ n11_ n12_; clear hb hbox hg; have hnb106 := NB121_101.out; have hnc106 := NB101_121.out; have hnb107 := NB121_108.out; have hnc107 := NB108_121.out; have hnb108 := NB121_116.out; have hnc108 := NB116_121.out; obtain ⟨hcz109_0, hcz109_1, hcz109_2⟩ := hc3 BK121.out; obtain ⟨hfz109_0, hfz109_1, hfz109_2⟩ := hf3 BK121.out))
                go_ret
                exact ⟨by first | rfl | (simp [errW_none, errW_some] <;> rfl) | (simp only [← hji27, ← hji31]; first | rfl | (simp [errW_none, errW_some] <;> rfl)) | (simp [*, errW_none, errW_some] <;> rfl), bl HB.out⟩
             ·replace c45 := Bool.eq_false_iff.mpr c45
              subst c45
              have H1 : (none) = some r := by rw [if_neg (show ¬ (false = true) by decide)] at H; exact H
              clear H
              have H := H1
              clear H1
              exact absurd H (by simp)
          ·rw [if_neg c34] at H
           exact absurd H (by simp)
         ·rw [if_neg c33] at H
          exact absurd H (by simp)
        ·rw [if_neg c32] at H
         exact absurd H (by simp)
       ·rw [if_neg c30] at H
        exact absurd H (by simp)
      ·rw [if_neg c29] at H
       exact absurd H (by simp)
     ·rw [if_neg c28] at H
      exact absurd H (by simp)

/-! ### drachmlaw02_FracBothWays: function 9 -/
def drachmlaw02_FracBothWays.f (k : Nat) (a0_0 : Int) (a0_1 : Int) (a0_2 : Int) (a1 : ByteArray) (a2_0 : Int) (a2_1 : Int) : Option (Bool) := (drachmlaw02_Spec_frac.f k a0_0 a0_1 a0_2).bind fun bt128 => ((drachmlaw02_both.f k bt128.1 bt128.2.1 bt128.2.2 a1 a2_0 ((a2_1) % 256)).bind fun t131 => (some t131))
theorem drachmlaw02_FracBothWays.mono : ∀ a0 a1 a2 a3 a4 a5 k, LeO (drachmlaw02_FracBothWays.f k a0 a1 a2 a3 a4 a5) (drachmlaw02_FracBothWays.f (k + 1) a0 a1 a2 a3 a4 a5) := by
 intro a0 a1 a2 a3 a4 a5 k
 unfold drachmlaw02_FracBothWays.f
 repeat' first
   | (with_reducible exact drachmlaw02_Spec_frac.mono _ _ _ _)
   | (with_reducible exact drachmlaw02_both.mono _ _ _ _ _ _ _)
   | (with_reducible exact LeO.refl _)
   | (with_reducible exact LeO.none _)
   | (with_reducible refine LeO.ite ?_ ?_)
   | (with_reducible refine LeO.bind ?_ (fun _ => ?_))
   | exact drachmlaw02_Spec_frac.mono _ _ _ _
   | exact drachmlaw02_both.mono _ _ _ _ _ _ _
   | exact LeO.none _
   | refine LeO.ite ?_ ?_
   | refine LeO.bind ?_ (fun _ => ?_)
def drachmlaw02_FracBothWays.T1 : Bool × List (List Nat × List Nat) := (true, [([], []), ([0], [0]), ([], []), ([], []), ([3], [3]), ([], []), ([5], [5]), ([6], [6]), ([1, 2, 4, 7, 1], [1, 2, 4, 7]), ([8, 8, 0, 1, 2, 3, 4, 5, 6, 7, 8], [8])])
def drachmlaw02_FracBothWays.B1 : List Nat := [0, 1, 0, 0, 8, 0, 32, 96, 255, 511]
theorem drachmlaw02_FracBothWays.tab1 : rtab .any (opsOf Tryd.f9 1) = drachmlaw02_FracBothWays.T1 := by kernel_rfl
theorem drachmlaw02_FracBothWays.bits1 : waitsOk drachmlaw02_FracBothWays.T1.2 drachmlaw02_FracBothWays.B1 = true := by kernel_rfl
set_option maxHeartbeats 8000000 in
set_option maxRecDepth 100000 in
theorem drachmlaw02_FracBothWays.calls (k : Nat) (a0_0 : Int) (a0_1 : Int) (a0_2 : Int) (a1 : ByteArray) (a2_0 : Int) (a2_1 : Int) (r : Bool) (w : World) (hG : Glob [1, 3, 4, 5] w) (h : drachmlaw02_FracBothWays.f k a0_0 a0_1 a0_2 a1 a2_0 a2_1 = some r) :
  Calls Tryd.prog 9 #[.agg #[.int .i64 a0_0, .int .i64 a0_1, .int .i64 a0_2], .string a1, .agg #[.int .i64 a2_0, .int .i64 a2_1]] w fun e w' => e = .returned (.bool r) ∧ Below w.heap.size w w' := by
 have hu23 := Tryd.underlying23
 have hu50 := Tryd.underlying50
 have HB := Aside0.mk (Below.refl w.heap.size w)
 have H : ((drachmlaw02_Spec_frac.f k a0_0 a0_1 a0_2).bind fun bt128 => ((drachmlaw02_both.f k bt128.1 bt128.2.1 bt128.2.2 a1 a2_0 ((a2_1) % 256)).bind fun t131 => (some t131))) = some r := h
 clear h
 replace H := Option.bind_eq_some_iff.mp H
 obtain ⟨⟨t128, t129, t130⟩, A40, H⟩ := H
 replace H : ((drachmlaw02_both.f k t128 t129 t130 a1 a2_0 ((a2_1) % 256)).bind fun t131 => (some t131)) = some r := H
 have A4 := Aside0.mk A40
 clear A40
 replace H := Option.bind_eq_some_iff.mp H
 obtain ⟨t131, A50, H⟩ := H
 replace H : (some t131) = some r := H
 have A5 := Aside0.mk A50
 clear A50
 obtain rfl := Option.some.inj H
 go_enter Tryd.func9, Tryd.ntmps9
 try go_wp2_with (first | ((with_reducible refine gate_dst (N := 3) rfl ?_); refine box_event ?hg (N := 3) ?hd (cs := #[.int .i64 a0_0, .int .i64 a0_1, .int .i64 a0_2]) (t := 23) ?hr ?_; (case hd => rfl); (case hg => rfl); (case hr => first | (go_simp; done) | (go_simp; rfl)); intro gb126 hg w6 hbox hb; have n0_ := Aside0.mk (below_step (bl HB.out) hb); have n1_ := Aside0.mk (hbox); have n2_ := Aside0.mk ((by rw [hg]; exact (below_size (bl HB.out)) : w.heap.size ≤ gb126)); have n3_ := Aside0.mk ((by rw [hg]; exact (below_size (bl HB.out)) : w.heap.size ≤ gb126)); clear HB; have HB := n0_; have BK126 := n1_; have GW126 := n2_; have GE126 := n3_; clear n0_ n1_ n2_ n3_; clear hb hbox hg) | ((with_reducible refine gate_dst (N := 5) rfl ?_); refine box_event ?hg (N := 5) ?hd (cs := #[.int .i64 a2_0, .int .i64 a2_1]) (t := 50) ?hr ?_; (case hd => rfl); (case hg => rfl); (case hr => first | (go_simp; done) | (go_simp; rfl)); intro gb127 hg w7 hbox hb; have n0_ := Aside0.mk (blk_below (kp BK126.out) hb); have n1_ := Aside0.mk (below_step (bl HB.out) hb); have n2_ := Aside0.mk (hbox); have n3_ := Aside0.mk ((by rw [hg]; exact (below_size (bl HB.out)) : w.heap.size ≤ gb127)); have n4_ := Aside0.mk ((by rw [hg]; exact (below_size (bl HB.out)) : w.heap.size ≤ gb127)); have n5_ := Aside0.mk ((by rw [hg]; exact Nat.ne_of_lt (blk_lt (kp BK126.out)) : gb126 ≠ gb127)); have n6_ := Aside0.mk ((by rw [hg]; exact Nat.ne_of_gt (blk_lt (kp BK126.out)) : gb127 ≠ gb126)); clear BK126; clear HB; have BK126 := n0_; have HB := n1_; have BK127 := n2_; have GW127 := n3_; have GE127 := n4_; have NB126_127 := n5_; have NB127_126 := n6_; clear n0_ n1_ n2_ n3_ n4_ n5_ n6_; clear hb hbox hg))
 (try (rw [drewN_self w7]; generalize hq_ : World.drewN w7 _ = w7; replace BK126 := Aside0.mk (kq hq_ BK126.out); replace BK127 := Aside0.mk (kq hq_ BK127.out); replace HB := Aside0.mk (bq hq_ HB.out); clear hq_))
 replace BK126 := Aside0.mk (blk_drew BK126.out)
 replace BK127 := Aside0.mk (blk_drew BK127.out)
 replace HB := Aside0.mk (below_drew1 HB.out)
 refine start_ (n := 10) (S := fun w' => w'.cell? ⟨gb126, 0, none⟩ = some (.int .i64 a0_0) ∧ w'.cell? ⟨gb126, 1, none⟩ = some (.int .i64 a0_1) ∧ w'.cell? ⟨gb126, 2, none⟩ = some (.int .i64 a0_2) ∧ w'.cell? ⟨gb127, 0, none⟩ = some (.int .i64 a2_0) ∧ w'.cell? ⟨gb127, 1, none⟩ = some (.int .i64 a2_1)) (ds := []) #[false, false, false, false, false, false, false, false, false, false] (by kernel_rfl) rfl rfl ⟨(blk_cell BK126.out 0).trans rfl, (blk_cell BK126.out 1).trans rfl, (blk_cell BK126.out 2).trans rfl, (blk_cell BK127.out 0).trans rfl, (blk_cell BK127.out 1).trans rfl⟩ (fun hHeld => ?_); refine with_tabW drachmlaw02_FracBothWays.tab1 drachmlaw02_FracBothWays.bits1 (fun HT_ HW_ => ?_)
 generalize w7.drew = w8 at BK126 BK127 HB hHeld ⊢
 refine pure_ (i := 2) (N := some 9) (v := ?_) (a' := ?_) #[false, false, true, false, false, false, false, false, false, false] rfl rfl (any_of HT_.out (by kernel_rfl)) (fun _ _ _ h => h) (Or.inl ⟨by rfl, ?_⟩) ?_ ?_
 rotate_left
 ·intro w'
  go_simp
  first | with_reducible rfl | (rw [if_neg (by simp only [ByteArray.size_extract, ByteArray.size_append, eq_iff_iff, iff_true, iff_false] at *; omega)])
 rotate_left
 ·simp only [Act.put, List.setIfInBounds_toArray, List.set_cons_zero, List.set_cons_succ, i64_w, i32_w]
  rfl
 refine pure_ (i := 3) (N := some 10) (v := ?_) (a' := ?_) #[false, false, true, true, false, false, false, false, false, false] rfl rfl (any_of HT_.out (by kernel_rfl)) (fun _ _ _ h => h) (Or.inl ⟨by rfl, ?_⟩) ?_ ?_
 rotate_left
 ·intro w'
  go_simp
  first | with_reducible rfl | (rw [if_neg (by simp only [ByteArray.size_extract, ByteArray.size_append, eq_iff_iff, iff_true, iff_false] at *; omega)])
 rotate_left
 ·simp only [Act.put, List.setIfInBounds_toArray, List.set_cons_zero, List.set_cons_succ, i64_w, i32_w]
  rfl
 refine pure_ (i := 5) (N := some 12) (v := ?_) (a' := ?_) #[false, false, true, true, false, true, false, false, false, false] rfl rfl (any_of HT_.out (by kernel_rfl)) (fun _ _ _ h => h) (Or.inl ⟨by rfl, ?_⟩) ?_ ?_
 rotate_left
 ·intro w'
  go_simp
  first | with_reducible rfl | (rw [if_neg (by simp only [ByteArray.size_extract, ByteArray.size_append, eq_iff_iff, iff_true, iff_false] at *; omega)])
 rotate_left
 ·simp only [Act.put, List.setIfInBounds_toArray, List.set_cons_zero, List.set_cons_succ, i64_w, i32_w]
  rfl
 refine take_ (i := 0) (N := some 7) (v := ?_) (a' := ?_) #[true, false, true, true, false, true, false, false, false, false] rfl rfl (take_ofW HT_.out HW_.out (by kernel_rfl)) (fun _ _ _ h => h) (Or.inl ⟨by rfl, ?_⟩) hHeld ?_ ?_
 rotate_left
 ·rintro w' ⟨s0, s1, s2, s3, s4⟩
  go_simp
  first | with_reducible rfl | (rw [if_neg (by simp only [ByteArray.size_extract, ByteArray.size_append, eq_iff_iff, iff_true, iff_false] at *; omega)])
 rotate_left
 ·simp only [Act.put, List.setIfInBounds_toArray, List.set_cons_zero, List.set_cons_succ, i64_w, i32_w]
  rfl
 refine take_ (i := 4) (N := some 11) (v := ?_) (a' := ?_) #[true, false, true, true, true, true, false, false, false, false] rfl rfl (take_ofW HT_.out HW_.out (by kernel_rfl)) (fun _ _ _ h => h) (Or.inl ⟨by rfl, ?_⟩) hHeld ?_ ?_
 rotate_left
 ·rintro w' ⟨s0, s1, s2, s3, s4⟩
  go_simp
  first | with_reducible rfl | (rw [if_neg (by simp only [ByteArray.size_extract, ByteArray.size_append, eq_iff_iff, iff_true, iff_false] at *; omega)])
 rotate_left
 ·simp only [Act.put, List.setIfInBounds_toArray, List.set_cons_zero, List.set_cons_succ, i64_w, i32_w]
  rfl
 refine take_ (i := 6) (N := some 13) (v := ?_) (a' := ?_) #[true, false, true, true, true, true, true, false, false, false] rfl rfl (take_ofW HT_.out HW_.out (by kernel_rfl)) (fun _ _ _ h => h) (Or.inl ⟨by rfl, ?_⟩) hHeld ?_ ?_
 rotate_left
 ·rintro w' ⟨s0, s1, s2, s3, s4⟩
  go_simp
  first | with_reducible rfl | (rw [if_neg (by simp only [ByteArray.size_extract, ByteArray.size_append, eq_iff_iff, iff_true, iff_false] at *; omega)])
 rotate_left
 ·simp only [Act.put, List.setIfInBounds_toArray, List.set_cons_zero, List.set_cons_succ, i64_w, i32_w]
  rfl
 refine pure_ (i := 7) (N := some 14) (v := ?_) (a' := ?_) #[true, false, true, true, true, true, true, true, false, false] rfl rfl (any_of HT_.out (by kernel_rfl)) (fun _ _ _ h => h) (Or.inl ⟨by rfl, ?_⟩) ?_ ?_
 rotate_left
 ·intro w'
  go_simp
  first | with_reducible rfl | (rw [if_neg (by simp only [ByteArray.size_extract, ByteArray.size_append, eq_iff_iff, iff_true, iff_false] at *; omega)])
 rotate_left
 ·simp only [Act.put, List.setIfInBounds_toArray, List.set_cons_zero, List.set_cons_succ, i64_w, i32_w]
  rfl
 refine one_ (i := 1) (N := some 8) #[true, true, true, true, true, true, true, true, false, false] rfl rfl (one_of HT_.out (by kernel_rfl)) (by decide) (fun K hK => ?_)
 refine goes_ Tryd.func15 (by kernel_rfl) rfl #[.agg #[.int .i64 a0_0, .int .i64 a0_1, .int .i64 a0_2]] (by rfl) rfl rfl (by (try simp only [List.map_toArray, List.map_cons, List.map_nil]); first | done | rfl | (simp only [List.length_drop, List.length_take]; rfl)) ?_
 with_reducible refine (drachmlaw02_Spec_frac.calls k a0_0 a0_1 a0_2 t128 t129 t130 _ A4.out).mono ?_
 rintro e w9 ⟨rfl, hb⟩
 refine ⟨_, rfl, ?_⟩
 replace BK126 := Aside0.mk (blk_below (kp BK126.out) hb)
 replace BK127 := Aside0.mk (blk_below (kp BK127.out) hb)
 replace HB := Aside0.mk (below_step (bl HB.out) hb)
 (try clear hb)
 (try clear hb2)
 (try clear hk)
 (try clear hi)
 refine hK.out _ _ ⟨(blk_cell BK126.out 0).trans rfl, (blk_cell BK126.out 1).trans rfl, (blk_cell BK126.out 2).trans rfl, (blk_cell BK127.out 0).trans rfl, (blk_cell BK127.out 1).trans rfl⟩ (fun hHeld => ?_)
 clear hK K
 refine norm_ (a' := ?_) ?_ ?_
 rotate_left
 ·show Act.put _ (some 8) _ = _
  simp only [Act.put, List.setIfInBounds_toArray, List.set_cons_zero, List.set_cons_succ, i64_w, i32_w]
  rfl
 refine one_ (i := 8) (N := some 15) #[true, true, true, true, true, true, true, true, true, false] rfl rfl (one_of HT_.out (by kernel_rfl)) (by decide) (fun K hK => ?_)
 refine goes_ Tryd.func24 (by kernel_rfl) rfl #[.agg #[.int .i64 t128, .int .i64 t129, .int .i64 t130], .string a1, .int .i64 a2_0, .int .u8 ((a2_1) % 256)] (by rfl) rfl rfl (by (try simp only [List.map_toArray, List.map_cons, List.map_nil]); first | done | rfl | (simp only [List.length_drop, List.length_take]; rfl)) ?_
 with_reducible refine (drachmlaw02_both.calls k t128 t129 t130 a1 a2_0 ((a2_1) % 256) t131 _ (Glob.use hG (by decide) (by repeat (first | (with_reducible first | exact HB.out | exact Below.refl _ _ | apply below_alloc | apply pw_below_drewN | apply below_drew1) | exact HB.out | exact Below.refl _ _))) A5.out).mono ?_
 rintro e w10 ⟨rfl, hb⟩
 refine ⟨_, rfl, ?_⟩
 replace BK126 := Aside0.mk (blk_below (kp BK126.out) hb)
 replace BK127 := Aside0.mk (blk_below (kp BK127.out) hb)
 replace HB := Aside0.mk (below_step (bl HB.out) hb)
 (try clear hb)
 (try clear hb2)
 (try clear hk)
 (try clear hi)
 refine hK.out _ _ ⟨(blk_cell BK126.out 0).trans rfl, (blk_cell BK126.out 1).trans rfl, (blk_cell BK126.out 2).trans rfl, (blk_cell BK127.out 0).trans rfl, (blk_cell BK127.out 1).trans rfl⟩ (fun hHeld => ?_)
 clear hK K
 refine norm_ (a' := ?_) ?_ ?_
 rotate_left
 ·show Act.put _ (some 15) _ = _
  simp only [Act.put, List.setIfInBounds_toArray, List.set_cons_zero, List.set_cons_succ, i64_w, i32_w]
  rfl
 refine pure_ (i := 9) (N := some 6) (v := ?_) (a' := ?_) #[true, true, true, true, true, true, true, true, true, true] rfl rfl (any_of HT_.out (by kernel_rfl)) (fun _ _ _ h => h) (Or.inl ⟨by rfl, ?_⟩) ?_ ?_
 rotate_left
 ·intro w'
  go_simp
  first | with_reducible rfl | (rw [if_neg (by simp only [ByteArray.size_extract, ByteArray.size_append, eq_iff_iff, iff_true, iff_false] at *; omega)])
 rotate_left
 ·simp only [Act.put, List.setIfInBounds_toArray, List.set_cons_zero, List.set_cons_succ, i64_w, i32_w]
  rfl
 refine done_ (done_of HT_.out (by kernel_rfl)) ?_
 try go_wp2
 go_ret
 exact ⟨by first | rfl | (simp [errW_none, errW_some] <;> rfl) | (simp [*, errW_none, errW_some] <;> rfl), bl HB.out⟩

/-- THE ONE PURE STATEMENT of drachmlaw02_FracBothWays: yours. -/
def drachmlaw02_FracBothWays.Pure : Prop := ∀ (a0_0 : Int) (a0_1 : Int) (a0_2 : Int) (a1 : ByteArray) (a2_0 : Int) (a2_1 : Int), (Lit.int .i64 a0_0).wf = true → (Lit.int .i64 a0_1).wf = true → (Lit.int .i64 a0_2).wf = true → a1.size ≤ 140737488351232 → (Lit.int .i64 a2_0).wf = true → (Lit.int .i64 a2_1).wf = true → ∃ k, drachmlaw02_FracBothWays.f k a0_0 a0_1 a0_2 a1 a2_0 a2_1 = some true
theorem drachmlaw02_FracBothWays.walk (P : drachmlaw02_FracBothWays.Pure) (a0_0 : Int) (a0_1 : Int) (a0_2 : Int) (a1 : ByteArray) (a2_0 : Int) (a2_1 : Int) (w : World) (hG : Glob [1, 3, 4, 5] w) (w0_0 : (Lit.int .i64 a0_0).wf = true) (w0_1 : (Lit.int .i64 a0_1).wf = true) (w0_2 : (Lit.int .i64 a0_2).wf = true) (w1 : a1.size ≤ 140737488351232) (w2_0 : (Lit.int .i64 a2_0).wf = true) (w2_1 : (Lit.int .i64 a2_1).wf = true) :
  Calls Tryd.prog 9 #[.agg #[.int .i64 a0_0, .int .i64 a0_1, .int .i64 a0_2], .string a1, .agg #[.int .i64 a2_0, .int .i64 a2_1]] w fun e w' => e = .returned (.bool true) ∧ Below w.heap.size w w' := by
 obtain ⟨k, h⟩ := P a0_0 a0_1 a0_2 a1 a2_0 a2_1 w0_0 w0_1 w0_2 w1 w2_0 w2_1
 refine (drachmlaw02_FracBothWays.calls k a0_0 a0_1 a0_2 a1 a2_0 a2_1 true w hG h).mono ?_
 rintro e w' ⟨rfl, hd⟩
 exact ⟨rfl, hd⟩

end Go.Proofs.YtnndaackjgnhhaaDoor.PFracBothWays
