/- Printed by a program of this session (wip/tools/prt.py) out of the translation: plain functions, and that the calls come to just them. No conditions beyond those that stand in each theorem. -/
import Derived.Test.YtnndaackjgnhhaaDoorGlob
import Derived.Test.YtnndaackjgnhhaaDoorPFracPowersx0
import Derived.Test.YtnndaackjgnhhaaDoorPFracPowersx1
namespace Go.Proofs.YtnndaackjgnhhaaDoor.PFracPowers
open Go.Proofs.YtnndaackjgnhhaaDoor.Sq Go.RowKit Go.Proofs.YtnndaackjgnhhaaDoorW.PrintWords Go.Proofs.YtnndaackjgnhhaaDoorW.PrintLast Go.Proofs.YtnndaackjgnhhaaDoorW.PrintMore Go.Proofs.YtnndaackjgnhhaaDoor.PB Go.Proofs.YtnndaackjgnhhaaDoor.PC Go.Proofs.YtnndaackjgnhhaaDoor.PD
attribute [local go_sem] max2_int min2_int max_two min_two max_three min_three max_four min_four   -- for this text's walks alone
set_option linter.unusedVariables false
set_option linter.unusedSimpArgs false

attribute [local go_sem high] eqA24
/-! ### drachmlaw02_FracPowers: function 7 -/
mutual
def drachmlaw02_FracPowers.j1 : Nat → Bool → Int → Int → Int → Int → Int → Int → Int → Int → Option (Bool)
 | 0, _, _, _, _, _, _, _, _, _ => none
 | k + 1, x5, x7, x9, x107000, x107001, x107002, x108000, x108001, x108002 => (frac_Pow.f k x107000 x107001 x107002 x7).bind fun bt112 => ((frac_Pow.f k x107000 x107001 x107002 (wrap64 (-x7))).bind fun bt117 => (if x9 = bt112.2.2.2 then (if x9 = 0 then (drachmlaw02_FracPowers.j2 k x5 x7 bt112.2.2.2 bt117.2.2.2 (!(x108000 == bt112.1) || (!(x108001 == bt112.2.1) || (!(x108002 == bt112.2.2.1)))) x107000 x107001 x107002 bt112.1 bt112.2.1 bt112.2.2.1 bt117.1 bt117.2.1 bt117.2.2.1) else (drachmlaw02_FracPowers.j2 k x5 x7 bt112.2.2.2 bt117.2.2.2 false x107000 x107001 x107002 bt112.1 bt112.2.1 bt112.2.2.1 bt117.1 bt117.2.1 bt117.2.2.1)) else (drachmlaw02_FracPowers.j2 k x5 x7 bt112.2.2.2 bt117.2.2.2 true x107000 x107001 x107002 bt112.1 bt112.2.1 bt112.2.2.1 bt117.1 bt117.2.1 bt117.2.2.1)))
def drachmlaw02_FracPowers.j2 : Nat → Bool → Int → Int → Int → Bool → Int → Int → Int → Int → Int → Int → Int → Int → Int → Option (Bool)
 | 0, _, _, _, _, _, _, _, _, _, _, _, _, _, _ => none
 | k + 1, x5, x7, x12, x14, x64, x107000, x107001, x107002, x117000, x117001, x117002, x122000, x122001, x122002 => if x64 = true then (none) else (if x7 = 0 then (if x5 = true then (if (x117000 == 1 && (x117001 == 1 && (x117002 == 0))) = true then (some (x122000 == x117000 && (x122001 == x117001 && (x122002 == x117002)))) else (none)) else (none)) else (if x107000 = 0 then (if x5 = true then (if (x117000 == x107000 && (x117001 == x107001 && (x117002 == x107002))) = true then (some (x14 == 11)) else (none)) else (none)) else ((frac_Div.f k 1 1 0 x117000 x117001 x117002).bind fun bt122 => (if x5 = true then (if x12 = 0 then (if bt122.2.2.2 = x14 then (some (bt122.1 == x122000 && (bt122.2.1 == x122001 && (bt122.2.2.1 == x122002)))) else (none)) else (some true)) else (none)))))
def drachmlaw02_FracPowers.l0 : Nat → Bool → Int → Int → Int → Int → Int → Int → Int → Int → Int → Option (Bool)
 | 0, _, _, _, _, _, _, _, _, _, _ => none
 | k + 1, x5, x7, x9, x10, x107000, x107001, x107002, x108000, x108001, x108002 => if x10 < x7 then (if x9 = 0 then ((frac_Mul.f k x108000 x108001 x108002 x107000 x107001 x107002).bind fun bt108 => (drachmlaw02_FracPowers.l0 k x5 x7 bt108.2.2.2 (wrap64 (x10 + 1)) x107000 x107001 x107002 bt108.1 bt108.2.1 bt108.2.2.1)) else (drachmlaw02_FracPowers.j1 k x5 x7 x9 x107000 x107001 x107002 x108000 x108001 x108002)) else (drachmlaw02_FracPowers.j1 k x5 x7 x9 x107000 x107001 x107002 x108000 x108001 x108002)
end
def drachmlaw02_FracPowers.f (k : Nat) (a0_0 : Int) (a0_1 : Int) (a0_2 : Int) (a1 : Int) : Option (Bool) := (drachmlaw02_awake.f k).bind fun t102 => ((drachmlaw02_Spec_frac.f k a0_0 a0_1 a0_2).bind fun bt103 => (drachmlaw02_FracPowers.l0 k t102 (Int.tmod (wrap64 ((Int.tmod a1 13) + 13)) 13) 0 0 bt103.1 bt103.2.1 bt103.2.2 1 1 0))
theorem drachmlaw02_FracPowers.mono_l : ∀ k, (∀ y0 y1 y2 y3 y4 y5 y6 y7 y8, LeO (drachmlaw02_FracPowers.j1 k y0 y1 y2 y3 y4 y5 y6 y7 y8) (drachmlaw02_FracPowers.j1 (k + 1) y0 y1 y2 y3 y4 y5 y6 y7 y8)) ∧ (∀ y0 y1 y2 y3 y4 y5 y6 y7 y8 y9 y10 y11 y12 y13, LeO (drachmlaw02_FracPowers.j2 k y0 y1 y2 y3 y4 y5 y6 y7 y8 y9 y10 y11 y12 y13) (drachmlaw02_FracPowers.j2 (k + 1) y0 y1 y2 y3 y4 y5 y6 y7 y8 y9 y10 y11 y12 y13)) ∧ (∀ y0 y1 y2 y3 y4 y5 y6 y7 y8 y9, LeO (drachmlaw02_FracPowers.l0 k y0 y1 y2 y3 y4 y5 y6 y7 y8 y9) (drachmlaw02_FracPowers.l0 (k + 1) y0 y1 y2 y3 y4 y5 y6 y7 y8 y9))
 | 0 => ⟨fun _ _ _ _ _ _ _ _ _ r h => by simp [drachmlaw02_FracPowers.j1] at h, fun _ _ _ _ _ _ _ _ _ _ _ _ _ _ r h => by simp [drachmlaw02_FracPowers.j2] at h, fun _ _ _ _ _ _ _ _ _ _ r h => by simp [drachmlaw02_FracPowers.l0] at h⟩
 | k + 1 => by
  obtain ⟨ih0, ih1, ih2⟩ := drachmlaw02_FracPowers.mono_l k
  refine ⟨?_, ?_, ?_⟩
  ·intro y0 y1 y2 y3 y4 y5 y6 y7 y8
   unfold drachmlaw02_FracPowers.j1
   repeat' first
   | (with_reducible exact ih0 _ _ _ _ _ _ _ _ _)
   | (with_reducible exact ih1 _ _ _ _ _ _ _ _ _ _ _ _ _ _)
   | (with_reducible exact ih2 _ _ _ _ _ _ _ _ _ _)
   | (with_reducible exact drachmlaw02_Spec_frac.mono _ _ _ _)
   | (with_reducible exact drachmlaw02_awake.mono _)
   | (with_reducible exact frac_Div.mono _ _ _ _ _ _ _)
   | (with_reducible exact frac_Mul.mono _ _ _ _ _ _ _)
   | (with_reducible exact frac_Pow.mono _ _ _ _ _)
   | (with_reducible exact LeO.refl _)
   | (with_reducible exact LeO.none _)
   | (with_reducible refine LeO.ite ?_ ?_)
   | (with_reducible refine LeO.bind ?_ (fun _ => ?_))
   | exact ih0 _ _ _ _ _ _ _ _ _
   | exact ih1 _ _ _ _ _ _ _ _ _ _ _ _ _ _
   | exact ih2 _ _ _ _ _ _ _ _ _ _
   | exact drachmlaw02_Spec_frac.mono _ _ _ _
   | exact drachmlaw02_awake.mono _
   | exact frac_Div.mono _ _ _ _ _ _ _
   | exact frac_Mul.mono _ _ _ _ _ _ _
   | exact frac_Pow.mono _ _ _ _ _
   | exact LeO.none _
   | refine LeO.ite ?_ ?_
   | refine LeO.bind ?_ (fun _ => ?_)
  ·intro y0 y1 y2 y3 y4 y5 y6 y7 y8 y9 y10 y11 y12 y13
   unfold drachmlaw02_FracPowers.j2
   repeat' first
   | (with_reducible exact ih0 _ _ _ _ _ _ _ _ _)
   | (with_reducible exact ih1 _ _ _ _ _ _ _ _ _ _ _ _ _ _)
   | (with_reducible exact ih2 _ _ _ _ _ _ _ _ _ _)
   | (with_reducible exact drachmlaw02_Spec_frac.mono _ _ _ _)
   | (with_reducible exact drachmlaw02_awake.mono _)
   | (with_reducible exact frac_Div.mono _ _ _ _ _ _ _)
   | (with_reducible exact frac_Mul.mono _ _ _ _ _ _ _)
   | (with_reducible exact frac_Pow.mono _ _ _ _ _)
   | (with_reducible exact LeO.refl _)
   | (with_reducible exact LeO.none _)
   | (with_reducible refine LeO.ite ?_ ?_)
   | (with_reducible refine LeO.bind ?_ (fun _ => ?_))
   | exact ih0 _ _ _ _ _ _ _ _ _
   | exact ih1 _ _ _ _ _ _ _ _ _ _ _ _ _ _
   | exact ih2 _ _ _ _ _ _ _ _ _ _
   | exact drachmlaw02_Spec_frac.mono _ _ _ _
   | exact drachmlaw02_awake.mono _
   | exact frac_Div.mono _ _ _ _ _ _ _
   | exact frac_Mul.mono _ _ _ _ _ _ _
   | exact frac_Pow.mono _ _ _ _ _
   | exact LeO.none _
   | refine LeO.ite ?_ ?_
   | refine LeO.bind ?_ (fun _ => ?_)
  ·intro y0 y1 y2 y3 y4 y5 y6 y7 y8 y9
   unfold drachmlaw02_FracPowers.l0
   repeat' first
   | (with_reducible exact ih0 _ _ _ _ _ _ _ _ _)
   | (with_reducible exact ih1 _ _ _ _ _ _ _ _ _ _ _ _ _ _)
   | (with_reducible exact ih2 _ _ _ _ _ _ _ _ _ _)
   | (with_reducible exact drachmlaw02_Spec_frac.mono _ _ _ _)
   | (with_reducible exact drachmlaw02_awake.mono _)
   | (with_reducible exact frac_Div.mono _ _ _ _ _ _ _)
   | (with_reducible exact frac_Mul.mono _ _ _ _ _ _ _)
   | (with_reducible exact frac_Pow.mono _ _ _ _ _)
   | (with_reducible exact LeO.refl _)
   | (with_reducible exact LeO.none _)
   | (with_reducible refine LeO.ite ?_ ?_)
   | (with_reducible refine LeO.bind ?_ (fun _ => ?_))
   | exact ih0 _ _ _ _ _ _ _ _ _
   | exact ih1 _ _ _ _ _ _ _ _ _ _ _ _ _ _
   | exact ih2 _ _ _ _ _ _ _ _ _ _
   | exact drachmlaw02_Spec_frac.mono _ _ _ _
   | exact drachmlaw02_awake.mono _
   | exact frac_Div.mono _ _ _ _ _ _ _
   | exact frac_Mul.mono _ _ _ _ _ _ _
   | exact frac_Pow.mono _ _ _ _ _
   | exact LeO.none _
   | refine LeO.ite ?_ ?_
   | refine LeO.bind ?_ (fun _ => ?_)
theorem drachmlaw02_FracPowers.mono : ∀ a0 a1 a2 a3 k, LeO (drachmlaw02_FracPowers.f k a0 a1 a2 a3) (drachmlaw02_FracPowers.f (k + 1) a0 a1 a2 a3) := by
 intro a0 a1 a2 a3 k
 obtain ⟨ih0, ih1, ih2⟩ := drachmlaw02_FracPowers.mono_l k
 unfold drachmlaw02_FracPowers.f
 repeat' first
   | (with_reducible exact ih0 _ _ _ _ _ _ _ _ _)
   | (with_reducible exact ih1 _ _ _ _ _ _ _ _ _ _ _ _ _ _)
   | (with_reducible exact ih2 _ _ _ _ _ _ _ _ _ _)
   | (with_reducible exact drachmlaw02_Spec_frac.mono _ _ _ _)
   | (with_reducible exact drachmlaw02_awake.mono _)
   | (with_reducible exact frac_Div.mono _ _ _ _ _ _ _)
   | (with_reducible exact frac_Mul.mono _ _ _ _ _ _ _)
   | (with_reducible exact frac_Pow.mono _ _ _ _ _)
   | (with_reducible exact LeO.refl _)
   | (with_reducible exact LeO.none _)
   | (with_reducible refine LeO.ite ?_ ?_)
   | (with_reducible refine LeO.bind ?_ (fun _ => ?_))
   | exact ih0 _ _ _ _ _ _ _ _ _
   | exact ih1 _ _ _ _ _ _ _ _ _ _ _ _ _ _
   | exact ih2 _ _ _ _ _ _ _ _ _ _
   | exact drachmlaw02_Spec_frac.mono _ _ _ _
   | exact drachmlaw02_awake.mono _
   | exact frac_Div.mono _ _ _ _ _ _ _
   | exact frac_Mul.mono _ _ _ _ _ _ _
   | exact frac_Pow.mono _ _ _ _ _
   | exact LeO.none _
   | refine LeO.ite ?_ ?_
   | refine LeO.bind ?_ (fun _ => ?_)
set_option maxHeartbeats 8000000 in
set_option maxRecDepth 100000 in
theorem drachmlaw02_FracPowers.calls (k : Nat) (a0_0 : Int) (a0_1 : Int) (a0_2 : Int) (a1 : Int) (r : Bool) (w : World) (hG : Glob [0, 1] w) (h : drachmlaw02_FracPowers.f k a0_0 a0_1 a0_2 a1 = some r) :
  Calls Tryd.prog 7 #[.agg #[.int .i64 a0_0, .int .i64 a0_1, .int .i64 a0_2], .int .i64 a1] w fun e w' => e = .returned (.bool r) ∧ Below w.heap.size w w' := by
 have hu23 := Tryd.underlying23
 have hu24 := Tryd.underlying24
 have HB := Aside0.mk (Below.refl w.heap.size w)
 have H : ((drachmlaw02_awake.f k).bind fun t102 => ((drachmlaw02_Spec_frac.f k a0_0 a0_1 a0_2).bind fun bt103 => (drachmlaw02_FracPowers.l0 k t102 (Int.tmod (wrap64 ((Int.tmod a1 13) + 13)) 13) 0 0 bt103.1 bt103.2.1 bt103.2.2 1 1 0))) = some r := h
 clear h
 replace H := Option.bind_eq_some_iff.mp H
 obtain ⟨t102, A30, H⟩ := H
 replace H : ((drachmlaw02_Spec_frac.f k a0_0 a0_1 a0_2).bind fun bt103 => (drachmlaw02_FracPowers.l0 k t102 (Int.tmod (wrap64 ((Int.tmod a1 13) + 13)) 13) 0 0 bt103.1 bt103.2.1 bt103.2.2 1 1 0)) = some r := H
 have A3 := Aside0.mk A30
 clear A30
 replace H := Option.bind_eq_some_iff.mp H
 obtain ⟨⟨t103, t104, t105⟩, A40, H⟩ := H
 replace H : (drachmlaw02_FracPowers.l0 k t102 (Int.tmod (wrap64 ((Int.tmod a1 13) + 13)) 13) 0 0 t103 t104 t105 1 1 0) = some r := H
 have A4 := Aside0.mk A40
 clear A40
 have HC5 := Aside0.mk H
 clear H
 go_enter Tryd.func7, Tryd.ntmps7
 go_upto_block 0 with (first | ((with_reducible refine gate_dst (N := 2) rfl ?_); refine box_event ?hg (N := 2) ?hd (cs := #[.int .i64 a0_0, .int .i64 a0_1, .int .i64 a0_2]) (t := 23) ?hr ?_; (case hd => rfl); (case hg => rfl); (case hr => first | (go_simp; done) | (go_simp; rfl)); intro gb101 hg w6 hbox hb; have n0_ := Aside0.mk (below_step (bl HB.out) hb); have n1_ := Aside0.mk (hbox); have n2_ := Aside0.mk ((by rw [hg]; exact (below_size (bl HB.out)) : w.heap.size ≤ gb101)); have n3_ := Aside0.mk ((by rw [hg]; exact (below_size (bl HB.out)) : w.heap.size ≤ gb101)); clear HB; have HB := n0_; have BK101 := n1_; have GW101 := n2_; have GE101 := n3_; clear n0_ n1_ n2_ n3_; clear hb hbox hg) | ((with_reducible refine gate_callee (f := 10) rfl ?_); refine goesL_ (some 17) rfl rfl Tryd.func10 (by kernel_rfl) rfl #[] rfl (by (try simp only [List.map_toArray, List.map_cons, List.map_nil]); first | done | rfl | (simp only [List.length_drop, List.length_take]; rfl)) ?_; (with_reducible refine (drachmlaw02_awake.calls k  t102 _ (Glob.use hG (by decide) (bl HB.out)) A3.out).mono ?_); rintro e w7 ⟨rfl, hb⟩; refine ⟨_, rfl, ?_⟩; replace BK101 := Aside0.mk (blk_below (kp BK101.out) hb); replace HB := Aside0.mk (below_step (bl HB.out) hb); (try clear hb); (try clear hb2); (try clear hk); (try clear hi); obtain ⟨hcz8_0, hcz8_1, hcz8_2⟩ := hc3 BK101.out; obtain ⟨hfz8_0, hfz8_1, hfz8_2⟩ := hf3 BK101.out) | ((with_reducible refine gate_callee (f := 15) rfl ?_); refine goesL_ (some 19) rfl rfl Tryd.func15 (by kernel_rfl) rfl #[.agg #[.int .i64 a0_0, .int .i64 a0_1, .int .i64 a0_2]] rfl (by (try simp only [List.map_toArray, List.map_cons, List.map_nil]); first | done | rfl | (simp only [List.length_drop, List.length_take]; rfl)) ?_; (with_reducible refine (drachmlaw02_Spec_frac.calls k a0_0 a0_1 a0_2 t103 t104 t105 _ A4.out).mono ?_); rintro e w9 ⟨rfl, hb⟩; refine ⟨_, rfl, ?_⟩; replace BK101 := Aside0.mk (blk_below (kp BK101.out) hb); replace HB := Aside0.mk (below_step (bl HB.out) hb); (try clear hb); (try clear hb2); (try clear hk); (try clear hi)) | ((with_reducible refine gate_dst (N := 6) rfl ?_); refine box_event ?hg (N := 6) ?hd (cs := #[.int .i64 0, .int .i64 0, .int .i64 0]) (t := 24) ?hr ?_; (case hd => rfl); (case hg => rfl); (case hr => first | (go_simp; done) | (go_simp; rfl)); intro gb106 hg w10 hbox hb; have n0_ := Aside0.mk (blk_below (kp BK101.out) hb); have n1_ := Aside0.mk (below_step (bl HB.out) hb); have n2_ := Aside0.mk (hbox); have n3_ := Aside0.mk ((by rw [hg]; exact (below_size (bl HB.out)) : w.heap.size ≤ gb106)); have n4_ := Aside0.mk ((by rw [hg]; exact (below_size (bl HB.out)) : w.heap.size ≤ gb106)); have n5_ := Aside0.mk ((by rw [hg]; exact Nat.ne_of_lt (blk_lt (kp BK101.out)) : gb101 ≠ gb106)); have n6_ := Aside0.mk ((by rw [hg]; exact Nat.ne_of_gt (blk_lt (kp BK101.out)) : gb106 ≠ gb101)); clear BK101; clear HB; have BK101 := n0_; have HB := n1_; have BK106 := n2_; have GW106 := n3_; have GE106 := n4_; have NB101_106 := n5_; have NB106_101 := n6_; clear n0_ n1_ n2_ n3_ n4_ n5_ n6_; clear hb hbox hg; have hnb11 := NB106_101.out; have hnc11 := NB101_106.out; obtain ⟨hcz12_0, hcz12_1, hcz12_2⟩ := hc3 BK106.out; obtain ⟨hfz12_0, hfz12_1, hfz12_2⟩ := hf3 BK106.out) | ((with_reducible refine gate_dst (N := 8) rfl ?_); refine box_event ?hg (N := 8) ?hd (cs := #[.int .i64 0, .int .i64 0, .int .i64 0]) (t := 24) ?hr ?_; (case hd => rfl); (case hg => rfl); (case hr => first | (go_simp; done) | (go_simp; rfl)); intro gb107 hg w13 hbox hb; have n0_ := Aside0.mk (blk_below (kp BK101.out) hb); have n1_ := Aside0.mk (blk_below (kp (p3_2 (kp (p3_1 (kp (p3_0 (kp BK106.out))))))) hb); have n2_ := Aside0.mk (below_step (bl HB.out) hb); have n3_ := Aside0.mk (hbox); have n4_ := Aside0.mk ((by rw [hg]; exact (below_size (bl HB.out)) : w.heap.size ≤ gb107)); have n5_ := Aside0.mk ((by rw [hg]; exact (below_size (bl HB.out)) : w.heap.size ≤ gb107)); have n6_ := Aside0.mk ((by rw [hg]; exact Nat.ne_of_lt (blk_lt (kp BK101.out)) : gb101 ≠ gb107)); have n7_ := Aside0.mk ((by rw [hg]; exact Nat.ne_of_gt (blk_lt (kp BK101.out)) : gb107 ≠ gb101)); have n8_ := Aside0.mk ((by rw [hg]; exact Nat.ne_of_lt (blk_lt (kp (p3_2 (kp (p3_1 (kp (p3_0 (kp BK106.out)))))))) : gb106 ≠ gb107)); have n9_ := Aside0.mk ((by rw [hg]; exact Nat.ne_of_gt (blk_lt (kp (p3_2 (kp (p3_1 (kp (p3_0 (kp BK106.out)))))))) : gb107 ≠ gb106)); clear BK101; clear BK106; clear HB; have BK101 := n0_; have BK106 := n1_; have HB := n2_; have BK107 := n3_; have GW107 := n4_; have GE107 := n5_; have NB101_107 := n6_; have NB107_101 := n7_; have NB106_107 := n8_; have NB107_106 := n9_; clear n0_ n1_ n2_ n3_ n4_ n5_ n6_ n7_ n8_ n9_; clear hb hbox hg; have hnb14 := NB107_101.out; have hnc14 := NB101_107.out; have hnb15 := NB107_106.out; have hnc15 := NB106_107.out; obtain ⟨hcz16_0, hcz16_1, hcz16_2⟩ := hc3 BK107.out; obtain ⟨hfz16_0, hfz16_1, hfz16_2⟩ := hf3 BK107.out))
 (try simp only [Act.put, List.setIfInBounds_toArray, List.set_cons_zero, List.set_cons_succ])
 go_cut [9] (fun v9 wc => ∃ (kq : Nat) (x9_4 : Int) (x108000_4 : Int) (x108001_4 : Int) (x108002_4 : Int), v9 = .int .i64 x9_4 ∧ Aside0 (drachmlaw02_FracPowers.j1 kq t102 (Int.tmod (wrap64 ((Int.tmod a1 13) + 13)) 13) x9_4 t103 t104 t105 x108000_4 x108001_4 x108002_4 = some r) ∧ Aside0 (kq ≤ k) ∧ Aside0 (wc.heap[gb101]? = some (.cells #[.int .i64 a0_0, .int .i64 a0_1, .int .i64 a0_2] 23 (0, 0))) ∧ Aside0 (wc.heap[gb106]? = some (.cells #[.int .i64 t103, .int .i64 t104, .int .i64 t105] 24 (0, 0))) ∧ Aside0 (wc.heap[gb107]? = some (.cells #[.int .i64 x108000_4, .int .i64 x108001_4, .int .i64 x108002_4] 24 (0, 0))) ∧ Aside0 (Below w.heap.size w wc))
 case first =>
  have H := HC5.out
  clear HC5
  have H' := Aside0.mk H
  clear H
  go_wp2
  go_loopg [9, 10] k (fun kq v9 v10 w' => ∃ (x9_1 : Int) (x10_1 : Int) (x108000_1 : Int) (x108001_1 : Int) (x108002_1 : Int), v9 = .int .i64 x9_1 ∧ v10 = .int .i64 x10_1 ∧ Aside0 (drachmlaw02_FracPowers.l0 kq t102 (Int.tmod (wrap64 ((Int.tmod a1 13) + 13)) 13) x9_1 x10_1 t103 t104 t105 x108000_1 x108001_1 x108002_1 = some r) ∧ Aside0 (kq ≤ k) ∧ Aside0 (w'.heap[gb101]? = some (.cells #[.int .i64 a0_0, .int .i64 a0_1, .int .i64 a0_2] 23 (0, 0))) ∧ Aside0 (w'.heap[gb106]? = some (.cells #[.int .i64 t103, .int .i64 t104, .int .i64 t105] 24 (0, 0))) ∧ Aside0 (w'.heap[gb107]? = some (.cells #[.int .i64 x108000_1, .int .i64 x108001_1, .int .i64 x108002_1] 24 (0, 0))) ∧ Aside0 (Below w.heap.size w w'))
  case atStart => exact ⟨(0), (0), (1), (1), (0), (by first | rfl | (simp; done) | (simp [*]; done)), (by first | rfl | (simp; done) | (simp [*]; done)), H', ⟨Nat.le_refl _⟩, ⟨kp BK101.out⟩, ⟨kp BK106.out⟩, ⟨kp (p3_2 (kp (p3_1 (kp (p3_0 (kp BK107.out))))))⟩, ⟨bl HB.out⟩⟩
  case round =>
   clear H'
   try clear c1
   try clear p2
   try clear p6
   try clear c7
   try clear c10
   try clear c11
   try clear c14
   try clear c15
   try clear hcz12_0
   try clear hcz12_1
   try clear hcz12_2
   try clear hcz16_0
   try clear hcz16_1
   try clear hcz16_2
   try clear hcz8_0
   try clear hcz8_1
   try clear hcz8_2
   try clear hfz12_0
   try clear hfz12_1
   try clear hfz12_2
   try clear hfz16_0
   try clear hfz16_1
   try clear hfz16_2
   try clear hfz8_0
   try clear hfz8_1
   try clear hfz8_2
   obtain ⟨x9_1, x10_1, x108000_1, x108001_1, x108002_1, rfl, rfl, HA, HK1, BK101, BK106, BK107, HB⟩ := hrel
   cases gk with
   | zero => exact absurd HA.out (by simp [drachmlaw02_FracPowers.l0])
   | succ k1 =>
    have H := HA.out
    clear HA
    simp only [drachmlaw02_FracPowers.l0] at H
    by_cases c17 : x10_1 < (Int.tmod (wrap64 ((Int.tmod a1 13) + 13)) 13)
    ·rw [if_pos c17] at H
     have c17b0 : decide (x10_1 < (Int.tmod (wrap64 ((Int.tmod a1 13) + 13)) 13)) = true := decide_eq_true c17
     clear c17
     (first | rw [c17b0] | (simp only [i64_w, i32_w]; rw [c17b0]) | skip)
     by_cases c18 : x9_1 = 0
     ·rw [if_pos c18] at H
      have c18b0 : (x9_1 == 0) = true := beq_iff_eq.mpr c18
      have c18b1 : (x9_1 != 0) = false := bne_eq_false_iff_eq.mpr c18
      clear c18
      replace H := Option.bind_eq_some_iff.mp H
      obtain ⟨⟨t108, t109, t110, t111⟩, A190, H⟩ := H
      replace H : (drachmlaw02_FracPowers.l0 k1 t102 (Int.tmod (wrap64 ((Int.tmod a1 13) + 13)) 13) t111 (wrap64 (x10_1 + 1)) t103 t104 t105 t108 t109 t110) = some r := H
      have A19 := Aside0.mk A190
      clear A190
      have H' := Aside0.mk H
      clear H
      have hnb20 := NB107_101.out
      have hnc20 := NB101_107.out
      have hnb21 := NB107_106.out
      have hnc21 := NB106_107.out
      obtain ⟨hcz22_0, hcz22_1, hcz22_2⟩ := hc3 BK107.out
      obtain ⟨hfz22_0, hfz22_1, hfz22_2⟩ := hf3 BK107.out
      have hnb23 := NB106_101.out
      have hnc23 := NB101_106.out
      obtain ⟨hcz24_0, hcz24_1, hcz24_2⟩ := hc3 BK106.out
      obtain ⟨hfz24_0, hfz24_1, hfz24_2⟩ := hf3 BK106.out
      go_wp2_with (first | ((with_reducible refine gate_callee (f := 16) rfl ?_); refine goesL_ (some 37) rfl rfl Tryd.func16 (by kernel_rfl) rfl #[.agg #[.int .i64 x108000_1, .int .i64 x108001_1, .int .i64 x108002_1], .agg #[.int .i64 t103, .int .i64 t104, .int .i64 t105]] rfl (by (try simp only [List.map_toArray, List.map_cons, List.map_nil]); first | done | rfl | (simp only [List.length_drop, List.length_take]; rfl)) ?_; (with_reducible refine (frac_Mul.calls k1 x108000_1 x108001_1 x108002_1 t103 t104 t105 t108 t109 t110 t111 _ (Glob.use hG (by decide) (bl HB.out)) A19.out).mono ?_); rintro e w25 ⟨rfl, hb⟩; refine ⟨_, rfl, ?_⟩; replace BK101 := Aside0.mk (blk_below (kp BK101.out) hb); replace BK106 := Aside0.mk (blk_below (kp BK106.out) hb); replace BK107 := Aside0.mk (blk_below (kp BK107.out) hb); replace HB := Aside0.mk (below_step (bl HB.out) hb); (try clear hb); (try clear hb2); (try clear hk); (try clear hi); obtain ⟨hcz26_0, hcz26_1, hcz26_2⟩ := hc3 BK107.out; obtain ⟨hfz26_0, hfz26_1, hfz26_2⟩ := hf3 BK107.out))
      go_roundg k1
      case measure => have := HK1.out; omega
      case rel => exact ⟨(t111), (wrap64 (x10_1 + 1)), (t108), (t109), (t110), (by first | rfl | (simp; done) | (simp [*]; done)), (by first | rfl | (simp; done) | (simp [*]; done)), H', ⟨by have := HK1.out; omega⟩, ⟨kp BK101.out⟩, ⟨kp BK106.out⟩, ⟨kp (p3_2 (kp (p3_1 (kp (p3_0 (kp BK107.out))))))⟩, ⟨bl HB.out⟩⟩
     ·rw [if_neg c18] at H
      have c18b0 : (x9_1 == 0) = false := beq_eq_false_iff_ne.mpr c18
      have c18b1 : (x9_1 != 0) = true := bne_iff_ne.mpr c18
      have H' := Aside0.mk H
      clear H
      go_wp2
      go_meet
      case rel => exact ⟨_, (x9_1), (x108000_1), (x108001_1), (x108002_1), (by first | rfl | (simp; done) | (simp [*]; done)), H', ⟨by have := HK1.out; first | omega | exact Nat.le_refl _⟩, ⟨kp BK101.out⟩, ⟨kp BK106.out⟩, ⟨kp BK107.out⟩, ⟨bl HB.out⟩⟩
    ·rw [if_neg c17] at H
     have c17b0 : decide (x10_1 < (Int.tmod (wrap64 ((Int.tmod a1 13) + 13)) 13)) = false := decide_eq_false c17
     clear c17
     (first | rw [c17b0] | (simp only [i64_w, i32_w]; rw [c17b0]) | skip)
     have H' := Aside0.mk H
     clear H
     go_wp2
     go_meet
     case rel => exact ⟨_, (x9_1), (x108000_1), (x108001_1), (x108002_1), (by first | rfl | (simp; done) | (simp [*]; done)), H', ⟨by have := HK1.out; first | omega | exact Nat.le_refl _⟩, ⟨kp BK101.out⟩, ⟨kp BK106.out⟩, ⟨kp BK107.out⟩, ⟨bl HB.out⟩⟩
 case rest =>
  clear HC5
  try clear c1
  try clear c2
  try clear p2
  try clear p6
  try clear c7
  try clear c10
  try clear c11
  try clear c14
  try clear c15
  try clear c16
  try clear c17
  try clear c17b0
  try clear c18
  try clear c18b0
  try clear c18b1
  try clear c20
  try clear c21
  try clear c23
  try clear hcz12_0
  try clear hcz12_1
  try clear hcz12_2
  try clear hcz16_0
  try clear hcz16_1
  try clear hcz16_2
  try clear hcz22_0
  try clear hcz22_1
  try clear hcz22_2
  try clear hcz24_0
  try clear hcz24_1
  try clear hcz24_2
  try clear hcz26_0
  try clear hcz26_1
  try clear hcz26_2
  try clear hcz8_0
  try clear hcz8_1
  try clear hcz8_2
  try clear hfz12_0
  try clear hfz12_1
  try clear hfz12_2
  try clear hfz16_0
  try clear hfz16_1
  try clear hfz16_2
  try clear hfz22_0
  try clear hfz22_1
  try clear hfz22_2
  try clear hfz24_0
  try clear hfz24_1
  try clear hfz24_2
  try clear hfz26_0
  try clear hfz26_1
  try clear hfz26_2
  try clear hfz8_0
  try clear hfz8_1
  try clear hfz8_2
  try clear p2
  try clear p6
  obtain ⟨kq, x9_4, x108000_4, x108001_4, x108002_4, rfl, HA, HJ4, BK101, BK106, BK107, HB⟩ := hcut
  cases kq with
  | zero => exact absurd HA.out (by simp [drachmlaw02_FracPowers.j1])
  | succ kj4 =>
   have H := HA.out
   clear HA
   simp only [drachmlaw02_FracPowers.j1] at H
   replace H := Option.bind_eq_some_iff.mp H
   obtain ⟨⟨t112, t113, t114, t115⟩, A270, H⟩ := H
   replace H : ((frac_Pow.f kj4 t103 t104 t105 (wrap64 (-(Int.tmod (wrap64 ((Int.tmod a1 13) + 13)) 13)))).bind fun bt117 => (if x9_4 = t115 then (if x9_4 = 0 then (drachmlaw02_FracPowers.j2 kj4 t102 (Int.tmod (wrap64 ((Int.tmod a1 13) + 13)) 13) t115 bt117.2.2.2 (!(x108000_4 == t112) || (!(x108001_4 == t113) || (!(x108002_4 == t114)))) t103 t104 t105 t112 t113 t114 bt117.1 bt117.2.1 bt117.2.2.1) else (drachmlaw02_FracPowers.j2 kj4 t102 (Int.tmod (wrap64 ((Int.tmod a1 13) + 13)) 13) t115 bt117.2.2.2 false t103 t104 t105 t112 t113 t114 bt117.1 bt117.2.1 bt117.2.2.1)) else (drachmlaw02_FracPowers.j2 kj4 t102 (Int.tmod (wrap64 ((Int.tmod a1 13) + 13)) 13) t115 bt117.2.2.2 true t103 t104 t105 t112 t113 t114 bt117.1 bt117.2.1 bt117.2.2.1))) = some r := H
   have A27 := Aside0.mk A270
   clear A270
   replace H := Option.bind_eq_some_iff.mp H
   obtain ⟨⟨t117, t118, t119, t120⟩, A280, H⟩ := H
   replace H : (if x9_4 = t115 then (if x9_4 = 0 then (drachmlaw02_FracPowers.j2 kj4 t102 (Int.tmod (wrap64 ((Int.tmod a1 13) + 13)) 13) t115 t120 (!(x108000_4 == t112) || (!(x108001_4 == t113) || (!(x108002_4 == t114)))) t103 t104 t105 t112 t113 t114 t117 t118 t119) else (drachmlaw02_FracPowers.j2 kj4 t102 (Int.tmod (wrap64 ((Int.tmod a1 13) + 13)) 13) t115 t120 false t103 t104 t105 t112 t113 t114 t117 t118 t119)) else (drachmlaw02_FracPowers.j2 kj4 t102 (Int.tmod (wrap64 ((Int.tmod a1 13) + 13)) 13) t115 t120 true t103 t104 t105 t112 t113 t114 t117 t118 t119)) = some r := H
   have A28 := Aside0.mk A280
   clear A280
   have HC29 := Aside0.mk H
   clear H
   have hnb30 := NB106_101.out
   have hnc30 := NB101_106.out
   have hnb31 := NB106_107.out
   have hnc31 := NB107_106.out
   obtain ⟨hcz32_0, hcz32_1, hcz32_2⟩ := hc3 BK106.out
   obtain ⟨hfz32_0, hfz32_1, hfz32_2⟩ := hf3 BK106.out
   go_upto_region 12 with (first | ((with_reducible refine gate_callee (f := 19) rfl ?_); refine goesL_ (some 43) rfl rfl Tryd.func19 (by kernel_rfl) rfl #[.agg #[.int .i64 t103, .int .i64 t104, .int .i64 t105], .int .i64 (Int.tmod (wrap64 ((Int.tmod a1 13) + 13)) 13)] rfl (by (try simp only [List.map_toArray, List.map_cons, List.map_nil]); first | done | rfl | (simp only [List.length_drop, List.length_take]; rfl)) ?_; (with_reducible refine (frac_Pow.calls kj4 t103 t104 t105 (Int.tmod (wrap64 ((Int.tmod a1 13) + 13)) 13) t112 t113 t114 t115 _ (Glob.use hG (by decide) (bl HB.out)) A27.out).mono ?_); rintro e w33 ⟨rfl, hb⟩; refine ⟨_, rfl, ?_⟩; replace BK101 := Aside0.mk (blk_below (kp BK101.out) hb); replace BK106 := Aside0.mk (blk_below (kp BK106.out) hb); replace BK107 := Aside0.mk (blk_below (kp BK107.out) hb); replace HB := Aside0.mk (below_step (bl HB.out) hb); (try clear hb); (try clear hb2); (try clear hk); (try clear hi)) | ((with_reducible refine gate_dst (N := 11) rfl ?_); refine box_event ?hg (N := 11) ?hd (cs := #[.int .i64 0, .int .i64 0, .int .i64 0]) (t := 24) ?hr ?_; (case hd => rfl); (case hg => rfl); (case hr => first | (go_simp; done) | (go_simp; rfl)); intro gb116 hg w34 hbox hb; have n0_ := Aside0.mk (blk_below (kp BK101.out) hb); have n1_ := Aside0.mk (blk_below (kp BK106.out) hb); have n2_ := Aside0.mk (blk_below (kp BK107.out) hb); have n3_ := Aside0.mk (below_step (bl HB.out) hb); have n4_ := Aside0.mk (hbox); have n5_ := Aside0.mk ((by rw [hg]; exact (below_size (bl HB.out)) : w.heap.size ≤ gb116)); have n6_ := Aside0.mk ((by rw [hg]; exact (below_size (bl HB.out)) : w.heap.size ≤ gb116)); have n7_ := Aside0.mk ((by rw [hg]; exact Nat.ne_of_lt (blk_lt (kp BK101.out)) : gb101 ≠ gb116)); have n8_ := Aside0.mk ((by rw [hg]; exact Nat.ne_of_gt (blk_lt (kp BK101.out)) : gb116 ≠ gb101)); have n9_ := Aside0.mk ((by rw [hg]; exact Nat.ne_of_lt (blk_lt (kp BK106.out)) : gb106 ≠ gb116)); have n10_ := Aside0.mk ((by rw [hg]; exact Nat.ne_of_gt (blk_lt (kp BK106.out)) : gb116 ≠ gb106)); have n11_ := Aside0.mk ((by rw [hg]; exact Nat.ne_of_lt (blk_lt (kp BK107.out)) : gb107 ≠ gb116)); have n12_ := Aside0.mk ((by rw [hg]; exact Nat.ne_of_gt (blk_lt (kp BK107.out)) : gb116 ≠ gb107)); clear BK101; clear BK106; clear BK107; clear HB; have BK101 := n0_; have BK106 := n1_; have BK107 := n2_; have HB := n3_; have BK116 := n4_; have GW116 := n5_; have GE116 := n6_; have NB101_116 := n7_; have NB116_101 := n8_; have NB106_116 := n9_; have NB116_106 := n10_; have NB107_116 := n11_; have NB116_107 := n12_; clear n0_ n1_ n2_ n3_ n4_ n5_ n6_ n7_ n8_ n9_ n10_ n11_ n12_; clear hb hbox hg; have hnb35 := NB116_101.out; have hnc35 := NB101_116.out; have hnb36 := NB116_106.out; have hnc36 := NB106_116.out; have hnb37 := NB116_107.out; have hnc37 := NB107_116.out; obtain ⟨hcz38_0, hcz38_1, hcz38_2⟩ := hc3 BK116.out; obtain ⟨hfz38_0, hfz38_1, hfz38_2⟩ := hf3 BK116.out; obtain ⟨hcz39_0, hcz39_1, hcz39_2⟩ := hc3 BK106.out; obtain ⟨hfz39_0, hfz39_1, hfz39_2⟩ := hf3 BK106.out) | ((with_reducible refine gate_callee (f := 19) rfl ?_); refine goesL_ (some 50) rfl rfl Tryd.func19 (by kernel_rfl) rfl #[.agg #[.int .i64 t103, .int .i64 t104, .int .i64 t105], .int .i64 (wrap64 (-(Int.tmod (wrap64 ((Int.tmod a1 13) + 13)) 13)))] rfl (by (try simp only [List.map_toArray, List.map_cons, List.map_nil]); first | done | rfl | (simp only [List.length_drop, List.length_take]; rfl)) ?_; (with_reducible refine (frac_Pow.calls kj4 t103 t104 t105 (wrap64 (-(Int.tmod (wrap64 ((Int.tmod a1 13) + 13)) 13))) t117 t118 t119 t120 _ (Glob.use hG (by decide) (bl HB.out)) A28.out).mono ?_); rintro e w40 ⟨rfl, hb⟩; refine ⟨_, rfl, ?_⟩; replace BK101 := Aside0.mk (blk_below (kp BK101.out) hb); replace BK106 := Aside0.mk (blk_below (kp BK106.out) hb); replace BK107 := Aside0.mk (blk_below (kp BK107.out) hb); replace BK116 := Aside0.mk (blk_below (kp (p3_2 (kp (p3_1 (kp (p3_0 (kp BK116.out))))))) hb); replace HB := Aside0.mk (below_step (bl HB.out) hb); (try clear hb); (try clear hb2); (try clear hk); (try clear hi)) | ((with_reducible refine gate_dst (N := 13) rfl ?_); refine box_event ?hg (N := 13) ?hd (cs := #[.int .i64 0, .int .i64 0, .int .i64 0]) (t := 24) ?hr ?_; (case hd => rfl); (case hg => rfl); (case hr => first | (go_simp; done) | (go_simp; rfl)); intro gb121 hg w41 hbox hb; have n0_ := Aside0.mk (blk_below (kp BK101.out) hb); have n1_ := Aside0.mk (blk_below (kp BK106.out) hb); have n2_ := Aside0.mk (blk_below (kp BK107.out) hb); have n3_ := Aside0.mk (blk_below (kp BK116.out) hb); have n4_ := Aside0.mk (below_step (bl HB.out) hb); have n5_ := Aside0.mk (hbox); have n6_ := Aside0.mk ((by rw [hg]; exact (below_size (bl HB.out)) : w.heap.size ≤ gb121)); have n7_ := Aside0.mk ((by rw [hg]; exact (below_size (bl HB.out)) : w.heap.size ≤ gb121)); have n8_ := Aside0.mk ((by rw [hg]; exact Nat.ne_of_lt (blk_lt (kp BK101.out)) : gb101 ≠ gb121)); have n9_ := Aside0.mk ((by rw [hg]; exact Nat.ne_of_gt (blk_lt (kp BK101.out)) : gb121 ≠ gb101)); have n10_ := Aside0.mk ((by rw [hg]; exact Nat.ne_of_lt (blk_lt (kp BK106.out)) : gb106 ≠ gb121)); have n11_ := Aside0.mk ((by rw [hg]; exact Nat.ne_of_gt (blk_lt (kp BK106.out)) : gb121 ≠ gb106)); have n12_ := Aside0.mk ((by rw [hg]; exact Nat.ne_of_lt (blk_lt (kp BK107.out)) : gb107 ≠ gb121)); have n13_ := Aside0.mk ((by rw [hg]; exact Nat.ne_of_gt (blk_lt (kp BK107.out)) : gb121 ≠ gb107)); have n14_ := Aside0.mk ((by rw [hg]; exact Nat.ne_of_lt (blk_lt (kp BK116.out)) : gb116 ≠ gb121)); have n15_ := Aside0.mk ((by rw [hg]; exact Nat.ne_of_gt (blk_lt (kp BK116.out)) : gb121 ≠ gb116)); clear BK101; clear BK106; clear BK107; clear BK116; clear HB; have BK101 := n0_; have BK106 := n1_; have BK107 := n2_; have BK116 := n3_; have HB := n4_; have BK121 := n5_; have GW121 := n6_; have GE121 := n7_; have NB101_121 := n8_; have NB121_101 := n9_; have NB106_121 := n10_; have NB121_106 := n11_; have NB107_121 := n12_; have NB121_107 := n13_; have NB116_121 := n14_; have NB121_116 := n15_; clear n0_ n1_ n2_ n3_ n4_ n5_ n6_ n7_ n8_ n9_ n10_ n11_ n12_ n13_ n14_ n15_; clear hb hbox hg; have hnb42 := NB121_101.out; have hnc42 := NB101_121.out; have hnb43 := NB121_106.out; have hnc43 := NB106_121.out; have hnb44 := NB121_107.out; have hnc44 := NB107_121.out; have hnb45 := NB121_116.out; have hnc45 := NB116_121.out; obtain ⟨hcz46_0, hcz46_1, hcz46_2⟩ := hc3 BK121.out; obtain ⟨hfz46_0, hfz46_1, hfz46_2⟩ := hf3 BK121.out))
   (try simp only [Act.put, List.setIfInBounds_toArray, List.set_cons_zero, List.set_cons_succ])
   go_cut [64] (fun v64 wc => ∃ (kq : Nat) (x64_28 : Bool), v64 = .bool x64_28 ∧ Aside0 (drachmlaw02_FracPowers.j2 kq t102 (Int.tmod (wrap64 ((Int.tmod a1 13) + 13)) 13) t115 t120 x64_28 t103 t104 t105 t112 t113 t114 t117 t118 t119 = some r) ∧ Aside0 (kq ≤ kj4) ∧ Aside0 (wc.heap[gb101]? = some (.cells #[.int .i64 a0_0, .int .i64 a0_1, .int .i64 a0_2] 23 (0, 0))) ∧ Aside0 (wc.heap[gb106]? = some (.cells #[.int .i64 t103, .int .i64 t104, .int .i64 t105] 24 (0, 0))) ∧ Aside0 (wc.heap[gb107]? = some (.cells #[.int .i64 x108000_4, .int .i64 x108001_4, .int .i64 x108002_4] 24 (0, 0))) ∧ Aside0 (wc.heap[gb116]? = some (.cells #[.int .i64 t112, .int .i64 t113, .int .i64 t114] 24 (0, 0))) ∧ Aside0 (wc.heap[gb121]? = some (.cells #[.int .i64 t117, .int .i64 t118, .int .i64 t119] 24 (0, 0))) ∧ Aside0 (Below w.heap.size w wc))
   case first =>
    have H := HC29.out
    clear HC29
    by_cases c47 : x9_4 = t115
    ·rw [if_pos c47] at H
     have c47b0 : (x9_4 == t115) = true := beq_iff_eq.mpr c47
     have c47b1 : (x9_4 != t115) = false := bne_eq_false_iff_eq.mpr c47
     clear c47
     (first | rw [c47b0] | (simp only [i64_w, i32_w]; rw [c47b0]) | skip)
     by_cases c48 : x9_4 = 0
     ·rw [if_pos c48] at H
      have c48b0 : (x9_4 == 0) = true := beq_iff_eq.mpr c48
      have c48b1 : (x9_4 != 0) = false := bne_eq_false_iff_eq.mpr c48
      clear c48
      have H' := Aside0.mk H
      clear H
      have hnb49 := NB107_101.out
      have hnc49 := NB101_107.out
      have hnb50 := NB107_106.out
      have hnc50 := NB106_107.out
      have hnb51 := NB107_116.out
      have hnc51 := NB116_107.out
      have hnb52 := NB107_121.out
      have hnc52 := NB121_107.out
      obtain ⟨hcz53_0, hcz53_1, hcz53_2⟩ := hc3 BK107.out
      obtain ⟨hfz53_0, hfz53_1, hfz53_2⟩ := hf3 BK107.out
      have hnb54 := NB116_101.out
      have hnc54 := NB101_116.out
      have hnb55 := NB116_106.out
      have hnc55 := NB106_116.out
      have hnb56 := NB116_121.out
      have hnc56 := NB121_116.out
      obtain ⟨hcz57_0, hcz57_1, hcz57_2⟩ := hc3 BK116.out
      obtain ⟨hfz57_0, hfz57_1, hfz57_2⟩ := hf3 BK116.out
      go_wp2
      go_meet
      case rel => exact ⟨_, ((!(x108000_4 == t112) || (!(x108001_4 == t113) || (!(x108002_4 == t114))))), (by first | rfl | (simp; done) | (simp [*]; done)), H', ⟨by have := HJ4.out; first | omega | exact Nat.le_refl _⟩, ⟨kp BK101.out⟩, ⟨kp BK106.out⟩, ⟨kp BK107.out⟩, ⟨kp BK116.out⟩, ⟨kp (p3_2 (kp (p3_1 (kp (p3_0 (kp BK121.out))))))⟩, ⟨bl HB.out⟩⟩
     ·rw [if_neg c48] at H
      have c48b0 : (x9_4 == 0) = false := beq_eq_false_iff_ne.mpr c48
      have c48b1 : (x9_4 != 0) = true := bne_iff_ne.mpr c48
      have H' := Aside0.mk H
      clear H
      go_wp2
      go_meet
      case rel => exact ⟨_, (false), (by first | rfl | (simp; done) | (simp [*]; done)), H', ⟨by have := HJ4.out; first | omega | exact Nat.le_refl _⟩, ⟨kp BK101.out⟩, ⟨kp BK106.out⟩, ⟨kp BK107.out⟩, ⟨kp BK116.out⟩, ⟨kp (p3_2 (kp (p3_1 (kp (p3_0 (kp BK121.out))))))⟩, ⟨bl HB.out⟩⟩
    ·rw [if_neg c47] at H
     have c47b0 : (x9_4 == t115) = false := beq_eq_false_iff_ne.mpr c47
     have c47b1 : (x9_4 != t115) = true := bne_iff_ne.mpr c47
     (first | rw [c47b0] | (simp only [i64_w, i32_w]; rw [c47b0]) | skip)
     have H' := Aside0.mk H
     clear H
     go_wp2
     go_meet
     case rel => exact ⟨_, (true), (by first | rfl | (simp; done) | (simp [*]; done)), H', ⟨by have := HJ4.out; first | omega | exact Nat.le_refl _⟩, ⟨kp BK101.out⟩, ⟨kp BK106.out⟩, ⟨kp BK107.out⟩, ⟨kp BK116.out⟩, ⟨kp (p3_2 (kp (p3_1 (kp (p3_0 (kp BK121.out))))))⟩, ⟨bl HB.out⟩⟩
   case rest =>
    clear HC29
    try clear c1
    try clear c2
    try clear p2
    try clear c3
    try clear c4
    try clear c5
    try clear p6
    try clear c7
    try clear c10
    try clear c11
    try clear c14
    try clear c15
    try clear c16
    try clear c17
    try clear c17b0
    try clear c18
    try clear c18b0
    try clear c18b1
    try clear c19
    try clear c20
    try clear c21
    try clear c23
    try clear c30
    try clear c31
    try clear c35
    try clear c36
    try clear c37
    try clear c42
    try clear c43
    try clear c44
    try clear c45
    try clear c47
    try clear c47b0
    try clear c47b1
    try clear c48
    try clear c48b0
    try clear c48b1
    try clear c49
    try clear c50
    try clear c51
    try clear c52
    try clear c54
    try clear c55
    try clear c56
    try clear hcz12_0
    try clear hcz12_1
    try clear hcz12_2
    try clear hcz16_0
    try clear hcz16_1
    try clear hcz16_2
    try clear hcz22_0
    try clear hcz22_1
    try clear hcz22_2
    try clear hcz24_0
    try clear hcz24_1
    try clear hcz24_2
    try clear hcz26_0
    try clear hcz26_1
    try clear hcz26_2
    try clear hcz32_0
    try clear hcz32_1
    try clear hcz32_2
    try clear hcz38_0
    try clear hcz38_1
    try clear hcz38_2
    try clear hcz39_0
    try clear hcz39_1
    try clear hcz39_2
    try clear hcz46_0
    try clear hcz46_1
    try clear hcz46_2
    try clear hcz53_0
    try clear hcz53_1
    try clear hcz53_2
    try clear hcz57_0
    try clear hcz57_1
    try clear hcz57_2
    try clear hcz8_0
    try clear hcz8_1
    try clear hcz8_2
    try clear hfz12_0
    try clear hfz12_1
    try clear hfz12_2
    try clear hfz16_0
    try clear hfz16_1
    try clear hfz16_2
    try clear hfz22_0
    try clear hfz22_1
    try clear hfz22_2
    try clear hfz24_0
    try clear hfz24_1
    try clear hfz24_2
    try clear hfz26_0
    try clear hfz26_1
    try clear hfz26_2
    try clear hfz32_0
    try clear hfz32_1
    try clear hfz32_2
    try clear hfz38_0
    try clear hfz38_1
    try clear hfz38_2
    try clear hfz39_0
    try clear hfz39_1
    try clear hfz39_2
    try clear hfz46_0
    try clear hfz46_1
    try clear hfz46_2
    try clear hfz53_0
    try clear hfz53_1
    try clear hfz53_2
    try clear hfz57_0
    try clear hfz57_1
    try clear hfz57_2
    try clear hfz8_0
    try clear hfz8_1
    try clear hfz8_2
    try clear p2
    try clear p6
    obtain ⟨kq, x64_28, rfl, HA, HJ28, BK101, BK106, BK107, BK116, BK121, HB⟩ := hcut
    cases kq with
    | zero => exact absurd HA.out (by simp [drachmlaw02_FracPowers.j2])
    | succ kj28 =>
     have H := HA.out
     clear HA
     simp only [drachmlaw02_FracPowers.j2] at H
     by_cases c58 : x64_28 = true
     ·subst c58
      have H1 : (none) = some r := by rw [if_pos rfl] at H; exact H
      clear H
      have H := H1
      clear H1
      exact absurd H (by simp)
     ·replace c58 := Bool.eq_false_iff.mpr c58
      subst c58
      have H1 : (if (Int.tmod (wrap64 ((Int.tmod a1 13) + 13)) 13) = 0 then (if t102 = true then (if (t112 == 1 && (t113 == 1 && (t114 == 0))) = true then (some (t117 == t112 && (t118 == t113 && (t119 == t114)))) else (none)) else (none)) else (if t103 = 0 then (if t102 = true then (if (t112 == t103 && (t113 == t104 && (t114 == t105))) = true then (some (t120 == 11)) else (none)) else (none)) else ((frac_Div.f kj28 1 1 0 t112 t113 t114).bind fun bt122 => (if t102 = true then (if t115 = 0 then (if bt122.2.2.2 = t120 then (some (bt122.1 == t117 && (bt122.2.1 == t118 && (bt122.2.2.1 == t119)))) else (none)) else (some true)) else (none))))) = some r := by rw [if_neg (show ¬ (false = true) by decide)] at H; exact H
      clear H
      have H := H1
      clear H1
      by_cases c59 : (Int.tmod (wrap64 ((Int.tmod a1 13) + 13)) 13) = 0
      ·rw [if_pos c59] at H
       have c59b0 : ((Int.tmod (wrap64 ((Int.tmod a1 13) + 13)) 13) == 0) = true := beq_iff_eq.mpr c59
       have c59b1 : ((Int.tmod (wrap64 ((Int.tmod a1 13) + 13)) 13) != 0) = false := bne_eq_false_iff_eq.mpr c59
       clear c59
       by_cases c60 : t102 = true
       ·subst c60
        have H1 : (if (t112 == 1 && (t113 == 1 && (t114 == 0))) = true then (some (t117 == t112 && (t118 == t113 && (t119 == t114)))) else (none)) = some r := by rw [if_pos rfl] at H; exact H
        clear H
        have H := H1
        clear H1
        by_cases c61 : (t112 == 1 && (t113 == 1 && (t114 == 0))) = true
        ·rw [if_pos c61] at H
         have c61b0 : (t112 == 1 && (t113 == 1 && (t114 == 0))) = true := c61
         (try (have c61b1 : decide (t112 = 1 && (t113 == 1 && (t114 == 0))) = true := by simpa using c61))
         (try (have c61b2 : (t112 == 1 && (t113 == 1 && (t114 == 0))) = true := by simpa using c61))
         clear c61
         obtain rfl := Option.some.inj H
         have hnb62 := NB116_101.out
         have hnc62 := NB101_116.out
         have hnb63 := NB116_106.out
         have hnc63 := NB106_116.out
         have hnb64 := NB116_107.out
         have hnc64 := NB107_116.out
         have hnb65 := NB116_121.out
         have hnc65 := NB121_116.out
         obtain ⟨hcz66_0, hcz66_1, hcz66_2⟩ := hc3 BK116.out
         obtain ⟨hfz66_0, hfz66_1, hfz66_2⟩ := hf3 BK116.out
         have hnb67 := NB121_101.out
         have hnc67 := NB101_121.out
         have hnb68 := NB121_106.out
         have hnc68 := NB106_121.out
         have hnb69 := NB121_107.out
         have hnc69 := NB107_121.out
         obtain ⟨hcz70_0, hcz70_1, hcz70_2⟩ := hc3 BK121.out
         obtain ⟨hfz70_0, hfz70_1, hfz70_2⟩ := hf3 BK121.out
         go_wp2
         go_ret
         exact ⟨by first | rfl | (simp [errW_none, errW_some] <;> rfl) | (simp [*, errW_none, errW_some] <;> rfl), bl HB.out⟩
        ·rw [if_neg c61] at H
         exact absurd H (by simp)
       ·replace c60 := Bool.eq_false_iff.mpr c60
        subst c60
        have H1 : (none) = some r := by rw [if_neg (show ¬ (false = true) by decide)] at H; exact H
        clear H
        have H := H1
        clear H1
        exact absurd H (by simp)
      ·rw [if_neg c59] at H
       have c59b0 : ((Int.tmod (wrap64 ((Int.tmod a1 13) + 13)) 13) == 0) = false := beq_eq_false_iff_ne.mpr c59
       have c59b1 : ((Int.tmod (wrap64 ((Int.tmod a1 13) + 13)) 13) != 0) = true := bne_iff_ne.mpr c59
       by_cases c71 : t103 = 0
       ·rw [if_pos c71] at H
        have c71b0 : (t103 == 0) = true := beq_iff_eq.mpr c71
        have c71b1 : (t103 != 0) = false := bne_eq_false_iff_eq.mpr c71
        clear c71
        by_cases c72 : t102 = true
        ·subst c72
         have H1 : (if (t112 == t103 && (t113 == t104 && (t114 == t105))) = true then (some (t120 == 11)) else (none)) = some r := by rw [if_pos rfl] at H; exact H
         clear H
         have H := H1
         clear H1
         by_cases c73 : (t112 == t103 && (t113 == t104 && (t114 == t105))) = true
         ·rw [if_pos c73] at H
          have c73b0 : (t112 == t103 && (t113 == t104 && (t114 == t105))) = true := c73
          (try (have c73b1 : decide (t112 = t103 && (t113 == t104 && (t114 == t105))) = true := by simpa using c73))
          (try (have c73b2 : (t112 == t103 && (t113 == t104 && (t114 == t105))) = true := by simpa using c73))
          clear c73
          obtain rfl := Option.some.inj H
          have hnb74 := NB106_101.out
          have hnc74 := NB101_106.out
          have hnb75 := NB106_107.out
          have hnc75 := NB107_106.out
          have hnb76 := NB106_116.out
          have hnc76 := NB116_106.out
          have hnb77 := NB106_121.out
          have hnc77 := NB121_106.out
          obtain ⟨hcz78_0, hcz78_1, hcz78_2⟩ := hc3 BK106.out
          obtain ⟨hfz78_0, hfz78_1, hfz78_2⟩ := hf3 BK106.out
          have hnb79 := NB116_101.out
          have hnc79 := NB101_116.out
          have hnb80 := NB116_107.out
          have hnc80 := NB107_116.out
          have hnb81 := NB116_121.out
          have hnc81 := NB121_116.out
          obtain ⟨hcz82_0, hcz82_1, hcz82_2⟩ := hc3 BK116.out
          obtain ⟨hfz82_0, hfz82_1, hfz82_2⟩ := hf3 BK116.out
          go_wp2
          go_ret
          exact ⟨by first | rfl | (simp [errW_none, errW_some] <;> rfl) | (simp [*, errW_none, errW_some] <;> rfl), bl HB.out⟩
         ·rw [if_neg c73] at H
          exact absurd H (by simp)
        ·replace c72 := Bool.eq_false_iff.mpr c72
         subst c72
         have H1 : (none) = some r := by rw [if_neg (show ¬ (false = true) by decide)] at H; exact H
         clear H
         have H := H1
         clear H1
         exact absurd H (by simp)
       ·rw [if_neg c71] at H
        have c71b0 : (t103 == 0) = false := beq_eq_false_iff_ne.mpr c71
        have c71b1 : (t103 != 0) = true := bne_iff_ne.mpr c71
        replace H := Option.bind_eq_some_iff.mp H
        obtain ⟨⟨t122, t123, t124, t125⟩, A830, H⟩ := H
        replace H : (if t102 = true then (if t115 = 0 then (if t125 = t120 then (some (t122 == t117 && (t123 == t118 && (t124 == t119)))) else (none)) else (some true)) else (none)) = some r := H
        have A83 := Aside0.mk A830
        clear A830
        by_cases c84 : t102 = true
        ·subst c84
         have H1 : (if t115 = 0 then (if t125 = t120 then (some (t122 == t117 && (t123 == t118 && (t124 == t119)))) else (none)) else (some true)) = some r := by rw [if_pos rfl] at H; exact H
         clear H
         have H := H1
         clear H1
         by_cases c85 : t115 = 0
         ·rw [if_pos c85] at H
          have c85b0 : (t115 == 0) = true := beq_iff_eq.mpr c85
          have c85b1 : (t115 != 0) = false := bne_eq_false_iff_eq.mpr c85
          clear c85
          by_cases c86 : t125 = t120
          ·rw [if_pos c86] at H
           have c86b0 : (t125 == t120) = true := beq_iff_eq.mpr c86
           have c86b1 : (t125 != t120) = false := bne_eq_false_iff_eq.mpr c86
           clear c86
           obtain rfl := Option.some.inj H
           have hnb87 := NB106_101.out
           have hnc87 := NB101_106.out
           have hnb88 := NB106_107.out
           have hnc88 := NB107_106.out
           have hnb89 := NB106_116.out
           have hnc89 := NB116_106.out
           have hnb90 := NB106_121.out
           have hnc90 := NB121_106.out
           obtain ⟨hcz91_0, hcz91_1, hcz91_2⟩ := hc3 BK106.out
           obtain ⟨hfz91_0, hfz91_1, hfz91_2⟩ := hf3 BK106.out
           have hnb92 := NB116_101.out
           have hnc92 := NB101_116.out
           have hnb93 := NB116_107.out
           have hnc93 := NB107_116.out
           have hnb94 := NB116_121.out
           have hnc94 := NB121_116.out
           obtain ⟨hcz95_0, hcz95_1, hcz95_2⟩ := hc3 BK116.out
           obtain ⟨hfz95_0, hfz95_1, hfz95_2⟩ := hf3 BK116.out
           go_wp2_with (first | ((with_reducible refine gate_callee (f := 17) rfl ?_); refine goesL_ (some 94) rfl rfl Tryd.func17 (by kernel_rfl) rfl #[.agg #[.int .i64 1, .int .i64 1, .int .i64 0], .agg #[.int .i64 t112, .int .i64 t113, .int .i64 t114]] rfl (by (try simp only [List.map_toArray, List.map_cons, List.map_nil]); first | done | rfl | (simp only [List.length_drop, List.length_take]; rfl)) ?_; (with_reducible refine (frac_Div.calls kj28 1 1 0 t112 t113 t114 t122 t123 t124 t125 _ (Glob.use hG (by decide) (bl HB.out)) A83.out).mono ?_); rintro e w96 ⟨rfl, hb⟩; refine ⟨_, rfl, ?_⟩; replace BK101 := Aside0.mk (blk_below (kp BK101.out) hb); replace BK106 := Aside0.mk (blk_below (kp BK106.out) hb); replace BK107 := Aside0.mk (blk_below (kp BK107.out) hb); replace BK116 := Aside0.mk (blk_below (kp BK116.out) hb); replace BK121 := Aside0.mk (blk_below (kp BK121.out) hb); replace HB := Aside0.mk (below_step (bl HB.out) hb); (try clear hb); (try clear hb2); (try clear hk); (try clear hi)) | ((with_reducible refine gate_dst (N := 15) rfl ?_); refine box_event ?hg (N := 15) ?hd (cs := #[.int .i64 0, .int .i64 0, .int .i64 0]) (t := 24) ?hr ?_; (case hd => rfl); (case hg => rfl); (case hr => first | (go_simp; done) | (go_simp; rfl)); intro gb126 hg w97 hbox hb; have n0_ := Aside0.mk (blk_below (kp BK101.out) hb); have n1_ := Aside0.mk (blk_below (kp BK106.out) hb); have n2_ := Aside0.mk (blk_below (kp BK107.out) hb); have n3_ := Aside0.mk (blk_below (kp BK116.out) hb); have n4_ := Aside0.mk (blk_below (kp BK121.out) hb); have n5_ := Aside0.mk (below_step (bl HB.out) hb); have n6_ := Aside0.mk (hbox); have n7_ := Aside0.mk ((by rw [hg]; exact (below_size (bl HB.out)) : w.heap.size ≤ gb126)); have n8_ := Aside0.mk ((by rw [hg]; exact (below_size (bl HB.out)) : w.heap.size ≤ gb126)); have n9_ := Aside0.mk ((by rw [hg]; exact Nat.ne_of_lt (blk_lt (kp BK101.out)) : gb101 ≠ gb126)); have n10_ := Aside0.mk ((by rw [hg]; exact Nat.ne_of_gt (blk_lt (kp BK101.out)) : gb126 ≠ gb101)); have n11_ := Aside0.mk ((by rw [hg]; exact Nat.ne_of_lt (blk_lt (kp BK106.out)) : gb106 ≠ gb126)); have n12_ := Aside0.mk ((by rw [hg]; exact Nat.ne_of_gt (blk_lt (kp BK106.out)) : gb126 ≠ gb106)); have n13_ := Aside0.mk ((by rw [hg]; exact Nat.ne_of_lt (blk_lt (kp BK107.out)) : gb107 ≠ gb126)); have n14_ := Aside0.mk ((by rw [hg]; exact Nat.ne_of_gt (blk_lt (kp BK107.out)) : gb126 ≠ gb107)); have n15_ := Aside0.mk ((by rw [hg]; exact Nat.ne_of_lt (blk_lt (kp BK116.out)) : gb116 ≠ gb126)); have n16_ := Aside0.mk ((by rw [hg]; exact Nat.ne_of_gt (blk_lt (kp BK116.out)) : gb126 ≠ gb116)); have n17_ := Aside0.mk ((by rw [hg]; exact Nat.ne_of_lt (blk_lt (kp BK121.out)) : gb121 ≠ gb126)); have n18_ := Aside0.mk ((by rw [hg]; exact Nat.ne_of_gt (blk_lt (kp BK121.out)) : gb126 ≠ gb121)); clear BK101; clear BK106; clear BK107; clear BK116; clear BK121; clear HB; have BK101 := n0_; have BK106 := n1_; have BK107 := n2_; have BK116 := n3_; have BK121 := n4_; have HB := n5_; have BK126 := n6_; have GW126 := n7_; have GE126 := n8_; have NB101_126 := n9_; have NB126_101 := n10_; have NB106_126 := n11_; have NB126_106 := n12_; have NB107_126 := n13_; have NB126_107 := n14_; have NB116_126 := n15_; have NB126_116 := n16_; have NB121_126 := n17_; have NB126_121 := n18_; clear n0_ n1_ n2_ n3_ n4_ n5_ n6_ n7_ n8_ n9_ n10_ n11_ n12_ n13_ n14_ n15_ n16_ n17_ n18_; clear hb hbox hg; have hnb98 := NB126_101.out; have hnc98 := NB101_126.out; have hnb99 := NB126_106.out; have hnc99 := NB106_126.out; have hnb100 := NB126_107.out; have hnc100 := NB107_126.out; have hnb101 := NB126_116.out; have hnc101 := NB116_126.out; have hnb102 := NB126_121.out; have hnc102 := NB121_126.out; obtain ⟨hcz103_0, hcz103_1, hcz103_2⟩ := hc3 BK126.out; obtain ⟨hfz103_0, hfz103_1, hfz103_2⟩ := hf3 BK126.out; have hnb104 := NB121_101.out; have hnc104 := NB101_121.out; have hnb105 := NB121_107.out; have hnc105 := NB107_121.out; obtain ⟨hcz106_0, hcz106_1, hcz106_2⟩ := hc3 BK121.out; obtain ⟨hfz106_0, hfz106_1, hfz106_2⟩ := hf3 BK121.out))
           go_ret
           exact ⟨by first | rfl | (simp [errW_none, errW_some] <;> rfl) | (simp [*, errW_none, errW_some] <;> rfl), bl HB.out⟩
          ·rw [if_neg c86] at H
           exact absurd H (by simp)
         ·rw [if_neg c85] at H
          have c85b0 : (t115 == 0) = false := beq_eq_false_iff_ne.mpr c85
          have c85b1 : (t115 != 0) = true := bne_iff_ne.mpr c85
          obtain rfl := Option.some.inj H
          have hnb107 := NB106_101.out
          have hnc107 := NB101_106.out
          have hnb108 := NB106_107.out
          have hnc108 := NB107_106.out
          have hnb109 := NB106_116.out
          have hnc109 := NB116_106.out
          have hnb110 := NB106_121.out
          have hnc110 := NB121_106.out
          obtain ⟨hcz111_0, hcz111_1, hcz111_2⟩ := hc3 BK106.out
          obtain ⟨hfz111_0, hfz111_1, hfz111_2⟩ := hf3 BK106.out
          have hnb112 := NB116_101.out
          have hnc112 := NB101_116.out
          have hnb113 := NB116_107.out
          have hnc113 := NB107_116.out
          have hnb114 := NB116_121.out
          have hnc114 := NB121_116.out
          obtain ⟨hcz115_0, hcz115_1, hcz115_2⟩ := hc3 BK116.out
          obtain ⟨hfz115_0, hfz115_1, hfz115_2⟩ := hf3 BK116.out
          go_wp2_with (first | ((with_reducible refine gate_callee (f := 17) rfl ?_); refine goesL_ (some 94) rfl rfl Tryd.func17 (by kernel_rfl) rfl #[.agg #[.int .i64 1, .int .i64 1, .int .i64 0], .agg #[.int .i64 t112, .int .i64 t113, .int .i64 t114]] rfl (by (try simp only [List.map_toArray, List.map_cons, List.map_nil]); first | done | rfl | (simp only [List.length_drop, List.length_take]; rfl)) ?_; (with_reducible refine (frac_Div.calls kj28 1 1 0 t112 t113 t114 t122 t123 t124 t125 _ (Glob.use hG (by decide) (bl HB.out)) A83.out).mono ?_); rintro e w116 ⟨rfl, hb⟩; refine ⟨_, rfl, ?_⟩; replace BK101 := Aside0.mk (blk_below (kp BK101.out) hb); replace BK106 := Aside0.mk (blk_below (kp BK106.out) hb); replace BK107 := Aside0.mk (blk_below (kp BK107.out) hb); replace BK116 := Aside0.mk (blk_below (kp BK116.out) hb); replace BK121 := Aside0.mk (blk_below (kp BK121.out) hb); replace HB := Aside0.mk (below_step (bl HB.out) hb); (try clear hb); (try clear hb2); (try clear hk); (try clear hi)) | ((with_reducible refine gate_dst (N := 15) rfl ?_); refine box_event ?hg (N := 15) ?hd (cs := #[.int .i64 0, .int .i64 0, .int .i64 0]) (t := 24) ?hr ?_; (case hd => rfl); (case hg => rfl); (case hr => first | (go_simp; done) | (go_simp; rfl)); intro gb126 hg w117 hbox hb; have n0_ := Aside0.mk (blk_below (kp BK101.out) hb); have n1_ := Aside0.mk (blk_below (kp BK106.out) hb); have n2_ := Aside0.mk (blk_below (kp BK107.out) hb); have n3_ := Aside0.mk (blk_below (kp BK116.out) hb); have n4_ := Aside0.mk (blk_below (kp BK121.out) hb); have n5_ := Aside0.mk (below_step (bl HB.out) hb); have n6_ := Aside0.mk (hbox); have n7_ := Aside0.mk ((by rw [hg]; exact (below_size (bl HB.out)) : w.heap.size ≤ gb126)); have n8_ := Aside0.mk ((by rw [hg]; exact (below_size (bl HB.out)) : w.heap.size ≤ gb126)); have n9_ := Aside0.mk ((by rw [hg]; exact Nat.ne_of_lt (blk_lt (kp BK101.out)) : gb101 ≠ gb126)); have n10_ := Aside0.mk ((by rw [hg]; exact Nat.ne_of_gt (blk_lt (kp BK101.out)) : gb126 ≠ gb101)); have n11_ := Aside0.mk ((by rw [hg]; exact Nat.ne_of_lt (blk_lt (kp BK106.out)) : gb106 ≠ gb126)); have n12_ := Aside0.mk ((by rw [hg]; exact Nat.ne_of_gt (blk_lt (kp BK106.out)) : gb126 ≠ gb106)); have n13_ := Aside0.mk ((by rw [hg]; exact Nat.ne_of_lt (blk_lt (kp BK107.out)) : gb107 ≠ gb126)); have n14_ := Aside0.mk ((by rw [hg]; exact Nat.ne_of_gt (blk_lt (kp BK107.out)) : gb126 ≠ gb107)); have n15_ := Aside0.mk ((by rw [hg]; exact Nat.ne_of_lt (blk_lt (kp BK116.out)) : gb116 ≠ gb126)); have n16_ := Aside0.mk ((by rw [hg]; exact Nat.ne_of_gt (blk_lt (kp BK116.out)) : gb126 ≠ gb116)); have n17_ := Aside0.mk ((by rw [hg]; exact Nat.ne_of_lt (blk_lt (kp BK121.out)) : gb121 ≠ gb126)); have n18_ := Aside0.mk ((by rw [hg]; exact Nat.ne_of_gt (blk_lt (kp BK121.out)) : gb126 ≠ gb121)); clear BK101; clear BK106; clear BK107; clear BK116; clear BK121; clear HB; have BK101 := n0_; have BK106 := n1_; have BK107 := n2_; have BK116 := n3_; have BK121 := n4_; have HB := n5_; have BK126 := n6_; have GW126 := n7_; have GE126 := n8_; have NB101_126 := n9_; have NB126_101 := n10_; have NB106_126 := n11_; have NB126_106 := n12_; have NB107_126 := n13_; have NB126_107 := n14_; have NB116_126 := n15_; have NB126_116 := n16_; have NB121_126 := n17_; have NB126_121 := n18_; clear n0_ n1_ n2_ n3_ n4_ n5_ n6_ n7_ n8_ n9_ n10_ n11_ n12_ n13_ n14_ n15_ n16_ n17_ n18_; clear hb hbox hg; have hnb118 := NB126_101.out; have hnc118 := NB101_126.out; have hnb119 := NB126_106.out; have hnc119 := NB106_126.out; have hnb120 := NB126_107.out; have hnc120 := NB107_126.out; have hnb121 := NB126_116.out; have hnc121 := NB116_126.out; have hnb122 := NB126_121.out; have hnc122 := NB121_126.out; obtain ⟨hcz123_0, hcz123_1, hcz123_2⟩ := hc3 BK126.out; obtain ⟨hfz123_0, hfz123_1, hfz123_2⟩ := hf3 BK126.out))
          go_ret
          exact ⟨by first | rfl | (simp [errW_none, errW_some] <;> rfl) | (simp [*, errW_none, errW_some] <;> rfl), bl HB.out⟩
        ·replace c84 := Bool.eq_false_iff.mpr c84
         subst c84
         have H1 : (none) = some r := by rw [if_neg (show ¬ (false = true) by decide)] at H; exact H
         clear H
         have H := H1
         clear H1
         exact absurd H (by simp)

/-- THE ONE PURE STATEMENT of drachmlaw02_FracPowers: yours. -/
def drachmlaw02_FracPowers.Pure : Prop := ∀ (a0_0 : Int) (a0_1 : Int) (a0_2 : Int) (a1 : Int), (Lit.int .i64 a0_0).wf = true → (Lit.int .i64 a0_1).wf = true → (Lit.int .i64 a0_2).wf = true → (Lit.int .i64 a1).wf = true → ∃ k, drachmlaw02_FracPowers.f k a0_0 a0_1 a0_2 a1 = some true
theorem drachmlaw02_FracPowers.walk (P : drachmlaw02_FracPowers.Pure) (a0_0 : Int) (a0_1 : Int) (a0_2 : Int) (a1 : Int) (w : World) (hG : Glob [0, 1] w) (w0_0 : (Lit.int .i64 a0_0).wf = true) (w0_1 : (Lit.int .i64 a0_1).wf = true) (w0_2 : (Lit.int .i64 a0_2).wf = true) (w1 : (Lit.int .i64 a1).wf = true) :
  Calls Tryd.prog 7 #[.agg #[.int .i64 a0_0, .int .i64 a0_1, .int .i64 a0_2], .int .i64 a1] w fun e w' => e = .returned (.bool true) ∧ Below w.heap.size w w' := by
 obtain ⟨k, h⟩ := P a0_0 a0_1 a0_2 a1 w0_0 w0_1 w0_2 w1
 refine (drachmlaw02_FracPowers.calls k a0_0 a0_1 a0_2 a1 true w hG h).mono ?_
 rintro e w' ⟨rfl, hd⟩
 exact ⟨rfl, hd⟩

end Go.Proofs.YtnndaackjgnhhaaDoor.PFracPowers
