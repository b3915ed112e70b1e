/- Printed by a program of this session (wip/tools/prt.py) out of the translation: plain functions, and that the calls come to just them. No conditions beyond those that stand in each theorem. -/
import Derived.Test.YtnndaackjgnhhaaDoorGlob
import Derived.Test.YtnndaackjgnhhaaDoorPFracBackx0
import Derived.Test.YtnndaackjgnhhaaDoorPFracBackx1
namespace Go.Proofs.YtnndaackjgnhhaaDoor.PFracBack
open Go.Proofs.YtnndaackjgnhhaaDoor.Sq Go.RowKit Go.Proofs.YtnndaackjgnhhaaDoorW.PrintWords Go.Proofs.YtnndaackjgnhhaaDoorW.PrintLast Go.Proofs.YtnndaackjgnhhaaDoorW.PrintMore Go.Proofs.YtnndaackjgnhhaaDoor.PB Go.Proofs.YtnndaackjgnhhaaDoor.PC Go.Proofs.YtnndaackjgnhhaaDoor.PD
attribute [local go_sem] max2_int min2_int max_two min_two max_three min_three max_four min_four   -- for this text's walks alone
set_option linter.unusedVariables false
set_option linter.unusedSimpArgs false

attribute [local go_sem high] eqA24
/-! ### drachmlaw02_FracBack: function 5 -/
mutual
def drachmlaw02_FracBack.j0 : Nat → Bool → Int → Bool → Int → Int → Int → Int → Int → Int → Int → Int → Int → Option (Bool)
 | 0, _, _, _, _, _, _, _, _, _, _, _, _ => none
 | k + 1, x3, x7, x50, x107000, x107001, x107002, x111000, x111001, x111002, x116000, x116001, x116002 => if x50 = true then (none) else (if x7 = 0 then (drachmlaw02_FracBack.j1 k x3 x7 (x111000 == 0) x107000 x107001 x107002 x111000 x111001 x111002 x116000 x116001 x116002) else (drachmlaw02_FracBack.j1 k x3 x7 true x107000 x107001 x107002 x111000 x111001 x111002 x116000 x116001 x116002))
def drachmlaw02_FracBack.j1 : Nat → Bool → Int → Bool → Int → Int → Int → Int → Int → Int → Int → Int → Int → Option (Bool)
 | 0, _, _, _, _, _, _, _, _, _, _, _, _ => none
 | k + 1, x3, x7, x57, x107000, x107001, x107002, x111000, x111001, x111002, x116000, x116001, x116002 => if x57 = true then (if x3 = true then (if x7 = 0 then (some true) else (some (x7 == 10))) else (none)) else ((frac_Div.f k x116000 x116001 x116002 x111000 x111001 x111002).bind fun bt126 => (if x3 = true then (if bt126.2.2.2 = 0 then (if (bt126.1 == x107000 && (bt126.2.1 == x107001 && (bt126.2.2.1 == x107002))) = true then ((frac_Right.f k x116000 x116001 x116002).bind fun t131 => (some t131)) else (none)) else (none)) else (none)))
end
def drachmlaw02_FracBack.f (k : Nat) (a0_0 : Int) (a0_1 : Int) (a0_2 : Int) (a0_3 : Int) (a0_4 : Int) (a0_5 : Int) : Option (Bool) := (drachmlaw02_awake.f k).bind fun t102 => ((drachmlaw02_Spec_frac.f k a0_0 a0_1 a0_2).bind fun bt103 => ((drachmlaw02_Spec_frac.f k a0_3 a0_4 a0_5).bind fun bt107 => ((frac_Mul.f k bt103.1 bt103.2.1 bt103.2.2 bt107.1 bt107.2.1 bt107.2.2).bind fun bt111 => ((frac_Mul.f k bt107.1 bt107.2.1 bt107.2.2 bt103.1 bt103.2.1 bt103.2.2).bind fun bt116 => ((frac_Div.f k bt103.1 bt103.2.1 bt103.2.2 0 1 0).bind fun bt121 => (if (!(bt111.1 == bt116.1) || (!(bt111.2.1 == bt116.2.1) || (!(bt111.2.2.1 == bt116.2.2.1)))) = true then (drachmlaw02_FracBack.j0 k t102 bt111.2.2.2 true bt103.1 bt103.2.1 bt103.2.2 bt107.1 bt107.2.1 bt107.2.2 bt111.1 bt111.2.1 bt111.2.2.1) else (if bt111.2.2.2 = bt116.2.2.2 then (drachmlaw02_FracBack.j0 k t102 bt111.2.2.2 (bt121.2.2.2 != 11) bt103.1 bt103.2.1 bt103.2.2 bt107.1 bt107.2.1 bt107.2.2 bt111.1 bt111.2.1 bt111.2.2.1) else (drachmlaw02_FracBack.j0 k t102 bt111.2.2.2 true bt103.1 bt103.2.1 bt103.2.2 bt107.1 bt107.2.1 bt107.2.2 bt111.1 bt111.2.1 bt111.2.2.1))))))))
theorem drachmlaw02_FracBack.mono_l : ∀ k, (∀ y0 y1 y2 y3 y4 y5 y6 y7 y8 y9 y10 y11, LeO (drachmlaw02_FracBack.j0 k y0 y1 y2 y3 y4 y5 y6 y7 y8 y9 y10 y11) (drachmlaw02_FracBack.j0 (k + 1) y0 y1 y2 y3 y4 y5 y6 y7 y8 y9 y10 y11)) ∧ (∀ y0 y1 y2 y3 y4 y5 y6 y7 y8 y9 y10 y11, LeO (drachmlaw02_FracBack.j1 k y0 y1 y2 y3 y4 y5 y6 y7 y8 y9 y10 y11) (drachmlaw02_FracBack.j1 (k + 1) y0 y1 y2 y3 y4 y5 y6 y7 y8 y9 y10 y11))
 | 0 => ⟨fun _ _ _ _ _ _ _ _ _ _ _ _ r h => by simp [drachmlaw02_FracBack.j0] at h, fun _ _ _ _ _ _ _ _ _ _ _ _ r h => by simp [drachmlaw02_FracBack.j1] at h⟩
 | k + 1 => by
  obtain ⟨ih0, ih1⟩ := drachmlaw02_FracBack.mono_l k
  refine ⟨?_, ?_⟩
  ·intro y0 y1 y2 y3 y4 y5 y6 y7 y8 y9 y10 y11
   unfold drachmlaw02_FracBack.j0
   repeat' first
   | (with_reducible exact ih0 _ _ _ _ _ _ _ _ _ _ _ _)
   | (with_reducible exact ih1 _ _ _ _ _ _ _ _ _ _ _ _)
   | (with_reducible exact drachmlaw02_Spec_frac.mono _ _ _ _)
   | (with_reducible exact drachmlaw02_awake.mono _)
   | (with_reducible exact frac_Div.mono _ _ _ _ _ _ _)
   | (with_reducible exact frac_Mul.mono _ _ _ _ _ _ _)
   | (with_reducible exact frac_Right.mono _ _ _ _)
   | (with_reducible exact LeO.refl _)
   | (with_reducible exact LeO.none _)
   | (with_reducible refine LeO.ite ?_ ?_)
   | (with_reducible refine LeO.bind ?_ (fun _ => ?_))
   | exact ih0 _ _ _ _ _ _ _ _ _ _ _ _
   | exact ih1 _ _ _ _ _ _ _ _ _ _ _ _
   | exact drachmlaw02_Spec_frac.mono _ _ _ _
   | exact drachmlaw02_awake.mono _
   | exact frac_Div.mono _ _ _ _ _ _ _
   | exact frac_Mul.mono _ _ _ _ _ _ _
   | exact frac_Right.mono _ _ _ _
   | exact LeO.none _
   | refine LeO.ite ?_ ?_
   | refine LeO.bind ?_ (fun _ => ?_)
  ·intro y0 y1 y2 y3 y4 y5 y6 y7 y8 y9 y10 y11
   unfold drachmlaw02_FracBack.j1
   repeat' first
   | (with_reducible exact ih0 _ _ _ _ _ _ _ _ _ _ _ _)
   | (with_reducible exact ih1 _ _ _ _ _ _ _ _ _ _ _ _)
   | (with_reducible exact drachmlaw02_Spec_frac.mono _ _ _ _)
   | (with_reducible exact drachmlaw02_awake.mono _)
   | (with_reducible exact frac_Div.mono _ _ _ _ _ _ _)
   | (with_reducible exact frac_Mul.mono _ _ _ _ _ _ _)
   | (with_reducible exact frac_Right.mono _ _ _ _)
   | (with_reducible exact LeO.refl _)
   | (with_reducible exact LeO.none _)
   | (with_reducible refine LeO.ite ?_ ?_)
   | (with_reducible refine LeO.bind ?_ (fun _ => ?_))
   | exact ih0 _ _ _ _ _ _ _ _ _ _ _ _
   | exact ih1 _ _ _ _ _ _ _ _ _ _ _ _
   | exact drachmlaw02_Spec_frac.mono _ _ _ _
   | exact drachmlaw02_awake.mono _
   | exact frac_Div.mono _ _ _ _ _ _ _
   | exact frac_Mul.mono _ _ _ _ _ _ _
   | exact frac_Right.mono _ _ _ _
   | exact LeO.none _
   | refine LeO.ite ?_ ?_
   | refine LeO.bind ?_ (fun _ => ?_)
theorem drachmlaw02_FracBack.mono : ∀ a0 a1 a2 a3 a4 a5 k, LeO (drachmlaw02_FracBack.f k a0 a1 a2 a3 a4 a5) (drachmlaw02_FracBack.f (k + 1) a0 a1 a2 a3 a4 a5) := by
 intro a0 a1 a2 a3 a4 a5 k
 obtain ⟨ih0, ih1⟩ := drachmlaw02_FracBack.mono_l k
 unfold drachmlaw02_FracBack.f
 repeat' first
   | (with_reducible exact ih0 _ _ _ _ _ _ _ _ _ _ _ _)
   | (with_reducible exact ih1 _ _ _ _ _ _ _ _ _ _ _ _)
   | (with_reducible exact drachmlaw02_Spec_frac.mono _ _ _ _)
   | (with_reducible exact drachmlaw02_awake.mono _)
   | (with_reducible exact frac_Div.mono _ _ _ _ _ _ _)
   | (with_reducible exact frac_Mul.mono _ _ _ _ _ _ _)
   | (with_reducible exact frac_Right.mono _ _ _ _)
   | (with_reducible exact LeO.refl _)
   | (with_reducible exact LeO.none _)
   | (with_reducible refine LeO.ite ?_ ?_)
   | (with_reducible refine LeO.bind ?_ (fun _ => ?_))
   | exact ih0 _ _ _ _ _ _ _ _ _ _ _ _
   | exact ih1 _ _ _ _ _ _ _ _ _ _ _ _
   | exact drachmlaw02_Spec_frac.mono _ _ _ _
   | exact drachmlaw02_awake.mono _
   | exact frac_Div.mono _ _ _ _ _ _ _
   | exact frac_Mul.mono _ _ _ _ _ _ _
   | exact frac_Right.mono _ _ _ _
   | exact LeO.none _
   | refine LeO.ite ?_ ?_
   | refine LeO.bind ?_ (fun _ => ?_)
set_option maxHeartbeats 8000000 in
set_option maxRecDepth 100000 in
theorem drachmlaw02_FracBack.calls (k : Nat) (a0_0 : Int) (a0_1 : Int) (a0_2 : Int) (a0_3 : Int) (a0_4 : Int) (a0_5 : Int) (r : Bool) (w : World) (hG : Glob [1] w) (h : drachmlaw02_FracBack.f k a0_0 a0_1 a0_2 a0_3 a0_4 a0_5 = some r) :
  Calls Tryd.prog 5 #[.agg #[.int .i64 a0_0, .int .i64 a0_1, .int .i64 a0_2, .int .i64 a0_3, .int .i64 a0_4, .int .i64 a0_5]] w fun e w' => e = .returned (.bool r) ∧ Below w.heap.size w w' := by
 have hu37 := Tryd.underlying37
 have hu23 := Tryd.underlying23
 have hu24 := Tryd.underlying24
 have HB := Aside0.mk (Below.refl w.heap.size w)
 have H : ((drachmlaw02_awake.f k).bind fun t102 => ((drachmlaw02_Spec_frac.f k a0_0 a0_1 a0_2).bind fun bt103 => ((drachmlaw02_Spec_frac.f k a0_3 a0_4 a0_5).bind fun bt107 => ((frac_Mul.f k bt103.1 bt103.2.1 bt103.2.2 bt107.1 bt107.2.1 bt107.2.2).bind fun bt111 => ((frac_Mul.f k bt107.1 bt107.2.1 bt107.2.2 bt103.1 bt103.2.1 bt103.2.2).bind fun bt116 => ((frac_Div.f k bt103.1 bt103.2.1 bt103.2.2 0 1 0).bind fun bt121 => (if (!(bt111.1 == bt116.1) || (!(bt111.2.1 == bt116.2.1) || (!(bt111.2.2.1 == bt116.2.2.1)))) = true then (drachmlaw02_FracBack.j0 k t102 bt111.2.2.2 true bt103.1 bt103.2.1 bt103.2.2 bt107.1 bt107.2.1 bt107.2.2 bt111.1 bt111.2.1 bt111.2.2.1) else (if bt111.2.2.2 = bt116.2.2.2 then (drachmlaw02_FracBack.j0 k t102 bt111.2.2.2 (bt121.2.2.2 != 11) bt103.1 bt103.2.1 bt103.2.2 bt107.1 bt107.2.1 bt107.2.2 bt111.1 bt111.2.1 bt111.2.2.1) else (drachmlaw02_FracBack.j0 k t102 bt111.2.2.2 true bt103.1 bt103.2.1 bt103.2.2 bt107.1 bt107.2.1 bt107.2.2 bt111.1 bt111.2.1 bt111.2.2.1))))))))) = some r := h
 clear h
 replace H := Option.bind_eq_some_iff.mp H
 obtain ⟨t102, A20, H⟩ := H
 replace H : ((drachmlaw02_Spec_frac.f k a0_0 a0_1 a0_2).bind fun bt103 => ((drachmlaw02_Spec_frac.f k a0_3 a0_4 a0_5).bind fun bt107 => ((frac_Mul.f k bt103.1 bt103.2.1 bt103.2.2 bt107.1 bt107.2.1 bt107.2.2).bind fun bt111 => ((frac_Mul.f k bt107.1 bt107.2.1 bt107.2.2 bt103.1 bt103.2.1 bt103.2.2).bind fun bt116 => ((frac_Div.f k bt103.1 bt103.2.1 bt103.2.2 0 1 0).bind fun bt121 => (if (!(bt111.1 == bt116.1) || (!(bt111.2.1 == bt116.2.1) || (!(bt111.2.2.1 == bt116.2.2.1)))) = true then (drachmlaw02_FracBack.j0 k t102 bt111.2.2.2 true bt103.1 bt103.2.1 bt103.2.2 bt107.1 bt107.2.1 bt107.2.2 bt111.1 bt111.2.1 bt111.2.2.1) else (if bt111.2.2.2 = bt116.2.2.2 then (drachmlaw02_FracBack.j0 k t102 bt111.2.2.2 (bt121.2.2.2 != 11) bt103.1 bt103.2.1 bt103.2.2 bt107.1 bt107.2.1 bt107.2.2 bt111.1 bt111.2.1 bt111.2.2.1) else (drachmlaw02_FracBack.j0 k t102 bt111.2.2.2 true bt103.1 bt103.2.1 bt103.2.2 bt107.1 bt107.2.1 bt107.2.2 bt111.1 bt111.2.1 bt111.2.2.1)))))))) = some r := H
 have A2 := Aside0.mk A20
 clear A20
 replace H := Option.bind_eq_some_iff.mp H
 obtain ⟨⟨t103, t104, t105⟩, A30, H⟩ := H
 replace H : ((drachmlaw02_Spec_frac.f k a0_3 a0_4 a0_5).bind fun bt107 => ((frac_Mul.f k t103 t104 t105 bt107.1 bt107.2.1 bt107.2.2).bind fun bt111 => ((frac_Mul.f k bt107.1 bt107.2.1 bt107.2.2 t103 t104 t105).bind fun bt116 => ((frac_Div.f k t103 t104 t105 0 1 0).bind fun bt121 => (if (!(bt111.1 == bt116.1) || (!(bt111.2.1 == bt116.2.1) || (!(bt111.2.2.1 == bt116.2.2.1)))) = true then (drachmlaw02_FracBack.j0 k t102 bt111.2.2.2 true t103 t104 t105 bt107.1 bt107.2.1 bt107.2.2 bt111.1 bt111.2.1 bt111.2.2.1) else (if bt111.2.2.2 = bt116.2.2.2 then (drachmlaw02_FracBack.j0 k t102 bt111.2.2.2 (bt121.2.2.2 != 11) t103 t104 t105 bt107.1 bt107.2.1 bt107.2.2 bt111.1 bt111.2.1 bt111.2.2.1) else (drachmlaw02_FracBack.j0 k t102 bt111.2.2.2 true t103 t104 t105 bt107.1 bt107.2.1 bt107.2.2 bt111.1 bt111.2.1 bt111.2.2.1))))))) = some r := H
 have A3 := Aside0.mk A30
 clear A30
 replace H := Option.bind_eq_some_iff.mp H
 obtain ⟨⟨t107, t108, t109⟩, A40, H⟩ := H
 replace H : ((frac_Mul.f k t103 t104 t105 t107 t108 t109).bind fun bt111 => ((frac_Mul.f k t107 t108 t109 t103 t104 t105).bind fun bt116 => ((frac_Div.f k t103 t104 t105 0 1 0).bind fun bt121 => (if (!(bt111.1 == bt116.1) || (!(bt111.2.1 == bt116.2.1) || (!(bt111.2.2.1 == bt116.2.2.1)))) = true then (drachmlaw02_FracBack.j0 k t102 bt111.2.2.2 true t103 t104 t105 t107 t108 t109 bt111.1 bt111.2.1 bt111.2.2.1) else (if bt111.2.2.2 = bt116.2.2.2 then (drachmlaw02_FracBack.j0 k t102 bt111.2.2.2 (bt121.2.2.2 != 11) t103 t104 t105 t107 t108 t109 bt111.1 bt111.2.1 bt111.2.2.1) else (drachmlaw02_FracBack.j0 k t102 bt111.2.2.2 true t103 t104 t105 t107 t108 t109 bt111.1 bt111.2.1 bt111.2.2.1)))))) = some r := H
 have A4 := Aside0.mk A40
 clear A40
 replace H := Option.bind_eq_some_iff.mp H
 obtain ⟨⟨t111, t112, t113, t114⟩, A50, H⟩ := H
 replace H : ((frac_Mul.f k t107 t108 t109 t103 t104 t105).bind fun bt116 => ((frac_Div.f k t103 t104 t105 0 1 0).bind fun bt121 => (if (!(t111 == bt116.1) || (!(t112 == bt116.2.1) || (!(t113 == bt116.2.2.1)))) = true then (drachmlaw02_FracBack.j0 k t102 t114 true t103 t104 t105 t107 t108 t109 t111 t112 t113) else (if t114 = bt116.2.2.2 then (drachmlaw02_FracBack.j0 k t102 t114 (bt121.2.2.2 != 11) t103 t104 t105 t107 t108 t109 t111 t112 t113) else (drachmlaw02_FracBack.j0 k t102 t114 true t103 t104 t105 t107 t108 t109 t111 t112 t113))))) = some r := H
 have A5 := Aside0.mk A50
 clear A50
 replace H := Option.bind_eq_some_iff.mp H
 obtain ⟨⟨t116, t117, t118, t119⟩, A60, H⟩ := H
 replace H : ((frac_Div.f k t103 t104 t105 0 1 0).bind fun bt121 => (if (!(t111 == t116) || (!(t112 == t117) || (!(t113 == t118)))) = true then (drachmlaw02_FracBack.j0 k t102 t114 true t103 t104 t105 t107 t108 t109 t111 t112 t113) else (if t114 = t119 then (drachmlaw02_FracBack.j0 k t102 t114 (bt121.2.2.2 != 11) t103 t104 t105 t107 t108 t109 t111 t112 t113) else (drachmlaw02_FracBack.j0 k t102 t114 true t103 t104 t105 t107 t108 t109 t111 t112 t113)))) = some r := H
 have A6 := Aside0.mk A60
 clear A60
 replace H := Option.bind_eq_some_iff.mp H
 obtain ⟨⟨t121, t122, t123, t124⟩, A70, H⟩ := H
 replace H : (if (!(t111 == t116) || (!(t112 == t117) || (!(t113 == t118)))) = true then (drachmlaw02_FracBack.j0 k t102 t114 true t103 t104 t105 t107 t108 t109 t111 t112 t113) else (if t114 = t119 then (drachmlaw02_FracBack.j0 k t102 t114 (t124 != 11) t103 t104 t105 t107 t108 t109 t111 t112 t113) else (drachmlaw02_FracBack.j0 k t102 t114 true t103 t104 t105 t107 t108 t109 t111 t112 t113))) = some r := H
 have A7 := Aside0.mk A70
 clear A70
 have HC8 := Aside0.mk H
 clear H
 go_enter Tryd.func5, Tryd.ntmps5
 go_upto_region 7 with (first | ((with_reducible refine gate_dst (N := 1) rfl ?_); refine box_event ?hg (N := 1) ?hd (cs := #[.int .i64 a0_0, .int .i64 a0_1, .int .i64 a0_2, .int .i64 a0_3, .int .i64 a0_4, .int .i64 a0_5]) (t := 37) ?hr ?_; (case hd => rfl); (case hg => rfl); (case hr => first | (go_simp; done) | (go_simp; rfl)); intro gb101 hg w9 hbox hb; have n0_ := Aside0.mk (below_step (bl HB.out) hb); have n1_ := Aside0.mk (hbox); have n2_ := Aside0.mk ((by rw [hg]; exact (below_size (bl HB.out)) : w.heap.size ≤ gb101)); have n3_ := Aside0.mk ((by rw [hg]; exact (below_size (bl HB.out)) : w.heap.size ≤ gb101)); clear HB; have HB := n0_; have BK101 := n1_; have GW101 := n2_; have GE101 := n3_; clear n0_ n1_ n2_ n3_; clear hb hbox hg) | ((with_reducible refine gate_callee (f := 10) rfl ?_); refine goesL_ (some 14) rfl rfl Tryd.func10 (by kernel_rfl) rfl #[] rfl (by (try simp only [List.map_toArray, List.map_cons, List.map_nil]); first | done | rfl | (simp only [List.length_drop, List.length_take]; rfl)) ?_; (with_reducible refine (drachmlaw02_awake.calls k  t102 _ (Glob.use hG (by decide) (bl HB.out)) A2.out).mono ?_); rintro e w10 ⟨rfl, hb⟩; refine ⟨_, rfl, ?_⟩; replace BK101 := Aside0.mk (blk_below (kp BK101.out) hb); replace HB := Aside0.mk (below_step (bl HB.out) hb); (try clear hb); (try clear hb2); (try clear hk); (try clear hi); have hcz11_0 : w10.cell? ⟨gb101, 0, none⟩ = some (.int .i64 a0_0) := (blk_cell BK101.out 0).trans rfl; have hcz11_1 : w10.cell? ⟨gb101, 1, none⟩ = some (.int .i64 a0_1) := (blk_cell BK101.out 1).trans rfl; have hcz11_2 : w10.cell? ⟨gb101, 2, none⟩ = some (.int .i64 a0_2) := (blk_cell BK101.out 2).trans rfl; have hcz11_3 : w10.cell? ⟨gb101, 3, none⟩ = some (.int .i64 a0_3) := (blk_cell BK101.out 3).trans rfl; have hcz11_4 : w10.cell? ⟨gb101, 4, none⟩ = some (.int .i64 a0_4) := (blk_cell BK101.out 4).trans rfl; have hcz11_5 : w10.cell? ⟨gb101, 5, none⟩ = some (.int .i64 a0_5) := (blk_cell BK101.out 5).trans rfl; have hfz11_0 := blk_frozen BK101.out 0; have hfz11_1 := blk_frozen BK101.out 1; have hfz11_2 := blk_frozen BK101.out 2; have hfz11_3 := blk_frozen BK101.out 3; have hfz11_4 := blk_frozen BK101.out 4; have hfz11_5 := blk_frozen BK101.out 5) | ((with_reducible refine gate_callee (f := 15) rfl ?_); refine goesL_ (some 17) rfl rfl Tryd.func15 (by kernel_rfl) rfl #[.agg #[.int .i64 a0_0, .int .i64 a0_1, .int .i64 a0_2]] rfl (by (try simp only [List.map_toArray, List.map_cons, List.map_nil]); first | done | rfl | (simp only [List.length_drop, List.length_take]; rfl)) ?_; (with_reducible refine (drachmlaw02_Spec_frac.calls k a0_0 a0_1 a0_2 t103 t104 t105 _ A3.out).mono ?_); rintro e w12 ⟨rfl, hb⟩; refine ⟨_, rfl, ?_⟩; replace BK101 := Aside0.mk (blk_below (kp BK101.out) hb); replace HB := Aside0.mk (below_step (bl HB.out) hb); (try clear hb); (try clear hb2); (try clear hk); (try clear hi)) | ((with_reducible refine gate_dst (N := 4) rfl ?_); refine box_event ?hg (N := 4) ?hd (cs := #[.int .i64 0, .int .i64 0, .int .i64 0]) (t := 24) ?hr ?_; (case hd => rfl); (case hg => rfl); (case hr => first | (go_simp; done) | (go_simp; rfl)); intro gb106 hg w13 hbox hb; have n0_ := Aside0.mk (blk_below (kp BK101.out) hb); have n1_ := Aside0.mk (below_step (bl HB.out) hb); have n2_ := Aside0.mk (hbox); have n3_ := Aside0.mk ((by rw [hg]; exact (below_size (bl HB.out)) : w.heap.size ≤ gb106)); have n4_ := Aside0.mk ((by rw [hg]; exact (below_size (bl HB.out)) : w.heap.size ≤ gb106)); have n5_ := Aside0.mk ((by rw [hg]; exact Nat.ne_of_lt (blk_lt (kp BK101.out)) : gb101 ≠ gb106)); have n6_ := Aside0.mk ((by rw [hg]; exact Nat.ne_of_gt (blk_lt (kp BK101.out)) : gb106 ≠ gb101)); clear BK101; clear HB; have BK101 := n0_; have HB := n1_; have BK106 := n2_; have GW106 := n3_; have GE106 := n4_; have NB101_106 := n5_; have NB106_101 := n6_; clear n0_ n1_ n2_ n3_ n4_ n5_ n6_; clear hb hbox hg; have hnb14 := NB106_101.out; have hnc14 := NB101_106.out; obtain ⟨hcz15_0, hcz15_1, hcz15_2⟩ := hc3 BK106.out; obtain ⟨hfz15_0, hfz15_1, hfz15_2⟩ := hf3 BK106.out; have hcz16_0 : w13.cell? ⟨gb101, 0, none⟩ = some (.int .i64 a0_0) := (blk_cell BK101.out 0).trans rfl; have hcz16_1 : w13.cell? ⟨gb101, 1, none⟩ = some (.int .i64 a0_1) := (blk_cell BK101.out 1).trans rfl; have hcz16_2 : w13.cell? ⟨gb101, 2, none⟩ = some (.int .i64 a0_2) := (blk_cell BK101.out 2).trans rfl; have hcz16_3 : w13.cell? ⟨gb101, 3, none⟩ = some (.int .i64 a0_3) := (blk_cell BK101.out 3).trans rfl; have hcz16_4 : w13.cell? ⟨gb101, 4, none⟩ = some (.int .i64 a0_4) := (blk_cell BK101.out 4).trans rfl; have hcz16_5 : w13.cell? ⟨gb101, 5, none⟩ = some (.int .i64 a0_5) := (blk_cell BK101.out 5).trans rfl; have hfz16_0 := blk_frozen BK101.out 0; have hfz16_1 := blk_frozen BK101.out 1; have hfz16_2 := blk_frozen BK101.out 2; have hfz16_3 := blk_frozen BK101.out 3; have hfz16_4 := blk_frozen BK101.out 4; have hfz16_5 := blk_frozen BK101.out 5) | ((with_reducible refine gate_callee (f := 15) rfl ?_); refine goesL_ (some 20) rfl rfl Tryd.func15 (by kernel_rfl) rfl #[.agg #[.int .i64 a0_3, .int .i64 a0_4, .int .i64 a0_5]] rfl (by (try simp only [List.map_toArray, List.map_cons, List.map_nil]); first | done | rfl | (simp only [List.length_drop, List.length_take]; rfl)) ?_; (with_reducible refine (drachmlaw02_Spec_frac.calls k a0_3 a0_4 a0_5 t107 t108 t109 _ A4.out).mono ?_); rintro e w17 ⟨rfl, hb⟩; refine ⟨_, rfl, ?_⟩; replace BK101 := Aside0.mk (blk_below (kp BK101.out) hb); replace BK106 := Aside0.mk (blk_below (kp (p3_2 (kp (p3_1 (kp (p3_0 (kp BK106.out))))))) hb); replace HB := Aside0.mk (below_step (bl HB.out) hb); (try clear hb); (try clear hb2); (try clear hk); (try clear hi)) | ((with_reducible refine gate_dst (N := 5) rfl ?_); refine box_event ?hg (N := 5) ?hd (cs := #[.int .i64 0, .int .i64 0, .int .i64 0]) (t := 24) ?hr ?_; (case hd => rfl); (case hg => rfl); (case hr => first | (go_simp; done) | (go_simp; rfl)); intro gb110 hg w18 hbox hb; have n0_ := Aside0.mk (blk_below (kp BK101.out) hb); have n1_ := Aside0.mk (blk_below (kp BK106.out) hb); have n2_ := Aside0.mk (below_step (bl HB.out) hb); have n3_ := Aside0.mk (hbox); have n4_ := Aside0.mk ((by rw [hg]; exact (below_size (bl HB.out)) : w.heap.size ≤ gb110)); have n5_ := Aside0.mk ((by rw [hg]; exact (below_size (bl HB.out)) : w.heap.size ≤ gb110)); have n6_ := Aside0.mk ((by rw [hg]; exact Nat.ne_of_lt (blk_lt (kp BK101.out)) : gb101 ≠ gb110)); have n7_ := Aside0.mk ((by rw [hg]; exact Nat.ne_of_gt (blk_lt (kp BK101.out)) : gb110 ≠ gb101)); have n8_ := Aside0.mk ((by rw [hg]; exact Nat.ne_of_lt (blk_lt (kp BK106.out)) : gb106 ≠ gb110)); have n9_ := Aside0.mk ((by rw [hg]; exact Nat.ne_of_gt (blk_lt (kp BK106.out)) : gb110 ≠ gb106)); clear BK101; clear BK106; clear HB; have BK101 := n0_; have BK106 := n1_; have HB := n2_; have BK110 := n3_; have GW110 := n4_; have GE110 := n5_; have NB101_110 := n6_; have NB110_101 := n7_; have NB106_110 := n8_; have NB110_106 := n9_; clear n0_ n1_ n2_ n3_ n4_ n5_ n6_ n7_ n8_ n9_; clear hb hbox hg; have hnb19 := NB110_101.out; have hnc19 := NB101_110.out; have hnb20 := NB110_106.out; have hnc20 := NB106_110.out; obtain ⟨hcz21_0, hcz21_1, hcz21_2⟩ := hc3 BK110.out; obtain ⟨hfz21_0, hfz21_1, hfz21_2⟩ := hf3 BK110.out; obtain ⟨hcz22_0, hcz22_1, hcz22_2⟩ := hc3 BK106.out; obtain ⟨hfz22_0, hfz22_1, hfz22_2⟩ := hf3 BK106.out) | ((with_reducible refine gate_callee (f := 16) rfl ?_); refine goesL_ (some 24) rfl rfl Tryd.func16 (by kernel_rfl) rfl #[.agg #[.int .i64 t103, .int .i64 t104, .int .i64 t105], .agg #[.int .i64 t107, .int .i64 t108, .int .i64 t109]] rfl (by (try simp only [List.map_toArray, List.map_cons, List.map_nil]); first | done | rfl | (simp only [List.length_drop, List.length_take]; rfl)) ?_; (with_reducible refine (frac_Mul.calls k t103 t104 t105 t107 t108 t109 t111 t112 t113 t114 _ (Glob.use hG (by decide) (bl HB.out)) A5.out).mono ?_); rintro e w23 ⟨rfl, hb⟩; refine ⟨_, rfl, ?_⟩; replace BK101 := Aside0.mk (blk_below (kp BK101.out) hb); replace BK106 := Aside0.mk (blk_below (kp BK106.out) hb); replace BK110 := Aside0.mk (blk_below (kp (p3_2 (kp (p3_1 (kp (p3_0 (kp BK110.out))))))) hb); replace HB := Aside0.mk (below_step (bl HB.out) hb); (try clear hb); (try clear hb2); (try clear hk); (try clear hi)) | ((with_reducible refine gate_dst (N := 6) rfl ?_); refine box_event ?hg (N := 6) ?hd (cs := #[.int .i64 0, .int .i64 0, .int .i64 0]) (t := 24) ?hr ?_; (case hd => rfl); (case hg => rfl); (case hr => first | (go_simp; done) | (go_simp; rfl)); intro gb115 hg w24 hbox hb; have n0_ := Aside0.mk (blk_below (kp BK101.out) hb); have n1_ := Aside0.mk (blk_below (kp BK106.out) hb); have n2_ := Aside0.mk (blk_below (kp BK110.out) hb); have n3_ := Aside0.mk (below_step (bl HB.out) hb); have n4_ := Aside0.mk (hbox); have n5_ := Aside0.mk ((by rw [hg]; exact (below_size (bl HB.out)) : w.heap.size ≤ gb115)); have n6_ := Aside0.mk ((by rw [hg]; exact (below_size (bl HB.out)) : w.heap.size ≤ gb115)); have n7_ := Aside0.mk ((by rw [hg]; exact Nat.ne_of_lt (blk_lt (kp BK101.out)) : gb101 ≠ gb115)); have n8_ := Aside0.mk ((by rw [hg]; exact Nat.ne_of_gt (blk_lt (kp BK101.out)) : gb115 ≠ gb101)); have n9_ := Aside0.mk ((by rw [hg]; exact Nat.ne_of_lt (blk_lt (kp BK106.out)) : gb106 ≠ gb115)); have n10_ := Aside0.mk ((by rw [hg]; exact Nat.ne_of_gt (blk_lt (kp BK106.out)) : gb115 ≠ gb106)); have n11_ := Aside0.mk ((by rw [hg]; exact Nat.ne_of_lt (blk_lt (kp BK110.out)) : gb110 ≠ gb115)); have n12_ := Aside0.mk ((by rw [hg]; exact Nat.ne_of_gt (blk_lt (kp BK110.out)) : gb115 ≠ gb110)); clear BK101; clear BK106; clear BK110; clear HB; have BK101 := n0_; have BK106 := n1_; have BK110 := n2_; have HB := n3_; have BK115 := n4_; have GW115 := n5_; have GE115 := n6_; have NB101_115 := n7_; have NB115_101 := n8_; have NB106_115 := n9_; have NB115_106 := n10_; have NB110_115 := n11_; have NB115_110 := n12_; clear n0_ n1_ n2_ n3_ n4_ n5_ n6_ n7_ n8_ n9_ n10_ n11_ n12_; clear hb hbox hg; have hnb25 := NB115_101.out; have hnc25 := NB101_115.out; have hnb26 := NB115_106.out; have hnc26 := NB106_115.out; have hnb27 := NB115_110.out; have hnc27 := NB110_115.out; obtain ⟨hcz28_0, hcz28_1, hcz28_2⟩ := hc3 BK115.out; obtain ⟨hfz28_0, hfz28_1, hfz28_2⟩ := hf3 BK115.out; obtain ⟨hcz29_0, hcz29_1, hcz29_2⟩ := hc3 BK110.out; obtain ⟨hfz29_0, hfz29_1, hfz29_2⟩ := hf3 BK110.out; obtain ⟨hcz30_0, hcz30_1, hcz30_2⟩ := hc3 BK106.out; obtain ⟨hfz30_0, hfz30_1, hfz30_2⟩ := hf3 BK106.out) | ((with_reducible refine gate_callee (f := 16) rfl ?_); refine goesL_ (some 30) rfl rfl Tryd.func16 (by kernel_rfl) rfl #[.agg #[.int .i64 t107, .int .i64 t108, .int .i64 t109], .agg #[.int .i64 t103, .int .i64 t104, .int .i64 t105]] rfl (by (try simp only [List.map_toArray, List.map_cons, List.map_nil]); first | done | rfl | (simp only [List.length_drop, List.length_take]; rfl)) ?_; (with_reducible refine (frac_Mul.calls k t107 t108 t109 t103 t104 t105 t116 t117 t118 t119 _ (Glob.use hG (by decide) (bl HB.out)) A6.out).mono ?_); rintro e w31 ⟨rfl, hb⟩; refine ⟨_, rfl, ?_⟩; replace BK101 := Aside0.mk (blk_below (kp BK101.out) hb); replace BK106 := Aside0.mk (blk_below (kp BK106.out) hb); replace BK110 := Aside0.mk (blk_below (kp BK110.out) hb); replace BK115 := Aside0.mk (blk_below (kp (p3_2 (kp (p3_1 (kp (p3_0 (kp BK115.out))))))) hb); replace HB := Aside0.mk (below_step (bl HB.out) hb); (try clear hb); (try clear hb2); (try clear hk); (try clear hi)) | ((with_reducible refine gate_dst (N := 8) rfl ?_); refine box_event ?hg (N := 8) ?hd (cs := #[.int .i64 0, .int .i64 0, .int .i64 0]) (t := 24) ?hr ?_; (case hd => rfl); (case hg => rfl); (case hr => first | (go_simp; done) | (go_simp; rfl)); intro gb120 hg w32 hbox hb; have n0_ := Aside0.mk (blk_below (kp BK101.out) hb); have n1_ := Aside0.mk (blk_below (kp BK106.out) hb); have n2_ := Aside0.mk (blk_below (kp BK110.out) hb); have n3_ := Aside0.mk (blk_below (kp BK115.out) hb); have n4_ := Aside0.mk (below_step (bl HB.out) hb); have n5_ := Aside0.mk (hbox); have n6_ := Aside0.mk ((by rw [hg]; exact (below_size (bl HB.out)) : w.heap.size ≤ gb120)); have n7_ := Aside0.mk ((by rw [hg]; exact (below_size (bl HB.out)) : w.heap.size ≤ gb120)); have n8_ := Aside0.mk ((by rw [hg]; exact Nat.ne_of_lt (blk_lt (kp BK101.out)) : gb101 ≠ gb120)); have n9_ := Aside0.mk ((by rw [hg]; exact Nat.ne_of_gt (blk_lt (kp BK101.out)) : gb120 ≠ gb101)); have n10_ := Aside0.mk ((by rw [hg]; exact Nat.ne_of_lt (blk_lt (kp BK106.out)) : gb106 ≠ gb120)); have n11_ := Aside0.mk ((by rw [hg]; exact Nat.ne_of_gt (blk_lt (kp BK106.out)) : gb120 ≠ gb106)); have n12_ := Aside0.mk ((by rw [hg]; exact Nat.ne_of_lt (blk_lt (kp BK110.out)) : gb110 ≠ gb120)); have n13_ := Aside0.mk ((by rw [hg]; exact Nat.ne_of_gt (blk_lt (kp BK110.out)) : gb120 ≠ gb110)); have n14_ := Aside0.mk ((by rw [hg]; exact Nat.ne_of_lt (blk_lt (kp BK115.out)) : gb115 ≠ gb120)); have n15_ := Aside0.mk ((by rw [hg]; exact Nat.ne_of_gt (blk_lt (kp BK115.out)) : gb120 ≠ gb115)); clear BK101; clear BK106; clear BK110; clear BK115; clear HB; have BK101 := n0_; have BK106 := n1_; have BK110 := n2_; have BK115 := n3_; have HB := n4_; have BK120 := n5_; have GW120 := n6_; have GE120 := n7_; have NB101_120 := n8_; have NB120_101 := n9_; have NB106_120 := n10_; have NB120_106 := n11_; have NB110_120 := n12_; have NB120_110 := n13_; have NB115_120 := n14_; have NB120_115 := n15_; clear n0_ n1_ n2_ n3_ n4_ n5_ n6_ n7_ n8_ n9_ n10_ n11_ n12_ n13_ n14_ n15_; clear hb hbox hg; have hnb33 := NB120_101.out; have hnc33 := NB101_120.out; have hnb34 := NB120_106.out; have hnc34 := NB106_120.out; have hnb35 := NB120_110.out; have hnc35 := NB110_120.out; have hnb36 := NB120_115.out; have hnc36 := NB115_120.out; obtain ⟨hcz37_0, hcz37_1, hcz37_2⟩ := hc3 BK120.out; obtain ⟨hfz37_0, hfz37_1, hfz37_2⟩ := hf3 BK120.out; obtain ⟨hcz38_0, hcz38_1, hcz38_2⟩ := hc3 BK106.out; obtain ⟨hfz38_0, hfz38_1, hfz38_2⟩ := hf3 BK106.out) | ((with_reducible refine gate_callee (f := 17) rfl ?_); refine goesL_ (some 36) rfl rfl Tryd.func17 (by kernel_rfl) rfl #[.agg #[.int .i64 t103, .int .i64 t104, .int .i64 t105], .agg #[.int .i64 0, .int .i64 1, .int .i64 0]] rfl (by (try simp only [List.map_toArray, List.map_cons, List.map_nil]); first | done | rfl | (simp only [List.length_drop, List.length_take]; rfl)) ?_; (with_reducible refine (frac_Div.calls k t103 t104 t105 0 1 0 t121 t122 t123 t124 _ (Glob.use hG (by decide) (bl HB.out)) A7.out).mono ?_); rintro e w39 ⟨rfl, hb⟩; refine ⟨_, rfl, ?_⟩; replace BK101 := Aside0.mk (blk_below (kp BK101.out) hb); replace BK106 := Aside0.mk (blk_below (kp BK106.out) hb); replace BK110 := Aside0.mk (blk_below (kp BK110.out) hb); replace BK115 := Aside0.mk (blk_below (kp BK115.out) hb); replace BK120 := Aside0.mk (blk_below (kp (p3_2 (kp (p3_1 (kp (p3_0 (kp BK120.out))))))) hb); replace HB := Aside0.mk (below_step (bl HB.out) hb); (try clear hb); (try clear hb2); (try clear hk); (try clear hi)) | ((with_reducible refine gate_dst (N := 10) rfl ?_); refine box_event ?hg (N := 10) ?hd (cs := #[.int .i64 0, .int .i64 0, .int .i64 0]) (t := 24) ?hr ?_; (case hd => rfl); (case hg => rfl); (case hr => first | (go_simp; done) | (go_simp; rfl)); intro gb125 hg w40 hbox hb; have n0_ := Aside0.mk (blk_below (kp BK101.out) hb); have n1_ := Aside0.mk (blk_below (kp BK106.out) hb); have n2_ := Aside0.mk (blk_below (kp BK110.out) hb); have n3_ := Aside0.mk (blk_below (kp BK115.out) hb); have n4_ := Aside0.mk (blk_below (kp BK120.out) hb); have n5_ := Aside0.mk (below_step (bl HB.out) hb); have n6_ := Aside0.mk (hbox); have n7_ := Aside0.mk ((by rw [hg]; exact (below_size (bl HB.out)) : w.heap.size ≤ gb125)); have n8_ := Aside0.mk ((by rw [hg]; exact (below_size (bl HB.out)) : w.heap.size ≤ gb125)); have n9_ := Aside0.mk ((by rw [hg]; exact Nat.ne_of_lt (blk_lt (kp BK101.out)) : gb101 ≠ gb125)); have n10_ := Aside0.mk ((by rw [hg]; exact Nat.ne_of_gt (blk_lt (kp BK101.out)) : gb125 ≠ gb101)); have n11_ := Aside0.mk ((by rw [hg]; exact Nat.ne_of_lt (blk_lt (kp BK106.out)) : gb106 ≠ gb125)); have n12_ := Aside0.mk ((by rw [hg]; exact Nat.ne_of_gt (blk_lt (kp BK106.out)) : gb125 ≠ gb106)); have n13_ := Aside0.mk ((by rw [hg]; exact Nat.ne_of_lt (blk_lt (kp BK110.out)) : gb110 ≠ gb125)); have n14_ := Aside0.mk ((by rw [hg]; exact Nat.ne_of_gt (blk_lt (kp BK110.out)) : gb125 ≠ gb110)); have n15_ := Aside0.mk ((by rw [hg]; exact Nat.ne_of_lt (blk_lt (kp BK115.out)) : gb115 ≠ gb125)); have n16_ := Aside0.mk ((by rw [hg]; exact Nat.ne_of_gt (blk_lt (kp BK115.out)) : gb125 ≠ gb115)); have n17_ := Aside0.mk ((by rw [hg]; exact Nat.ne_of_lt (blk_lt (kp BK120.out)) : gb120 ≠ gb125)); have n18_ := Aside0.mk ((by rw [hg]; exact Nat.ne_of_gt (blk_lt (kp BK120.out)) : gb125 ≠ gb120)); clear BK101; clear BK106; clear BK110; clear BK115; clear BK120; clear HB; have BK101 := n0_; have BK106 := n1_; have BK110 := n2_; have BK115 := n3_; have BK120 := n4_; have HB := n5_; have BK125 := n6_; have GW125 := n7_; have GE125 := n8_; have NB101_125 := n9_; have NB125_101 := n10_; have NB106_125 := n11_; have NB125_106 := n12_; have NB110_125 := n13_; have NB125_110 := n14_; have NB115_125 := n15_; have NB125_115 := n16_; have NB120_125 := n17_; have NB125_120 := n18_; clear n0_ n1_ n2_ n3_ n4_ n5_ n6_ n7_ n8_ n9_ n10_ n11_ n12_ n13_ n14_ n15_ n16_ n17_ n18_; clear hb hbox hg; have hnb41 := NB125_101.out; have hnc41 := NB101_125.out; have hnb42 := NB125_106.out; have hnc42 := NB106_125.out; have hnb43 := NB125_110.out; have hnc43 := NB110_125.out; have hnb44 := NB125_115.out; have hnc44 := NB115_125.out; have hnb45 := NB125_120.out; have hnc45 := NB120_125.out; obtain ⟨hcz46_0, hcz46_1, hcz46_2⟩ := hc3 BK125.out; obtain ⟨hfz46_0, hfz46_1, hfz46_2⟩ := hf3 BK125.out))
 (try simp only [Act.put, List.setIfInBounds_toArray, List.set_cons_zero, List.set_cons_succ])
 go_cut [50] (fun v50 wc => ∃ (kq : Nat) (x50_7 : Bool), v50 = .bool x50_7 ∧ Aside0 (drachmlaw02_FracBack.j0 kq t102 t114 x50_7 t103 t104 t105 t107 t108 t109 t111 t112 t113 = some r) ∧ Aside0 (kq ≤ k) ∧ Aside0 (wc.heap[gb101]? = some (.cells #[.int .i64 a0_0, .int .i64 a0_1, .int .i64 a0_2, .int .i64 a0_3, .int .i64 a0_4, .int .i64 a0_5] 37 (0, 0))) ∧ Aside0 (wc.heap[gb106]? = some (.cells #[.int .i64 t103, .int .i64 t104, .int .i64 t105] 24 (0, 0))) ∧ Aside0 (wc.heap[gb110]? = some (.cells #[.int .i64 t107, .int .i64 t108, .int .i64 t109] 24 (0, 0))) ∧ Aside0 (wc.heap[gb115]? = some (.cells #[.int .i64 t111, .int .i64 t112, .int .i64 t113] 24 (0, 0))) ∧ Aside0 (wc.heap[gb120]? = some (.cells #[.int .i64 t116, .int .i64 t117, .int .i64 t118] 24 (0, 0))) ∧ Aside0 (wc.heap[gb125]? = some (.cells #[.int .i64 t121, .int .i64 t122, .int .i64 t123] 24 (0, 0))) ∧ Aside0 (Below w.heap.size w wc))
 case first =>
  have H := HC8.out
  clear HC8
  by_cases c47 : (!(t111 == t116) || (!(t112 == t117) || (!(t113 == t118)))) = true
  ·rw [if_pos c47] at H
   have c47b0 : (!(t111 == t116) || (!(t112 == t117) || (!(t113 == t118)))) = true := c47
   clear c47
   (first | rw [c47b0] | (simp only [i64_w, i32_w]; rw [c47b0]) | skip)
   have H' := Aside0.mk H
   clear H
   have hnb48 := NB115_101.out
   have hnc48 := NB101_115.out
   have hnb49 := NB115_106.out
   have hnc49 := NB106_115.out
   have hnb50 := NB115_110.out
   have hnc50 := NB110_115.out
   have hnb51 := NB115_120.out
   have hnc51 := NB120_115.out
   have hnb52 := NB115_125.out
   have hnc52 := NB125_115.out
   obtain ⟨hcz53_0, hcz53_1, hcz53_2⟩ := hc3 BK115.out
   obtain ⟨hfz53_0, hfz53_1, hfz53_2⟩ := hf3 BK115.out
   have hnb54 := NB120_101.out
   have hnc54 := NB101_120.out
   have hnb55 := NB120_106.out
   have hnc55 := NB106_120.out
   have hnb56 := NB120_110.out
   have hnc56 := NB110_120.out
   have hnb57 := NB120_125.out
   have hnc57 := NB125_120.out
   obtain ⟨hcz58_0, hcz58_1, hcz58_2⟩ := hc3 BK120.out
   obtain ⟨hfz58_0, hfz58_1, hfz58_2⟩ := hf3 BK120.out
   go_wp2
   go_meet
   case rel => exact ⟨_, (true), (by first | rfl | (simp; done) | (simp [*]; done)), H', ⟨by first | omega | exact Nat.le_refl _⟩, ⟨kp BK101.out⟩, ⟨kp BK106.out⟩, ⟨kp BK110.out⟩, ⟨kp BK115.out⟩, ⟨kp BK120.out⟩, ⟨kp (p3_2 (kp (p3_1 (kp (p3_0 (kp BK125.out))))))⟩, ⟨bl HB.out⟩⟩
  ·rw [if_neg c47] at H
   have c47b0 : (!(t111 == t116) || (!(t112 == t117) || (!(t113 == t118)))) = false := by simpa using c47
   clear c47
   (first | rw [c47b0] | (simp only [i64_w, i32_w]; rw [c47b0]) | skip)
   by_cases c59 : t114 = t119
   ·rw [if_pos c59] at H
    have c59b0 : (t114 == t119) = true := beq_iff_eq.mpr c59
    have c59b1 : (t114 != t119) = false := bne_eq_false_iff_eq.mpr c59
    clear c59
    have H' := Aside0.mk H
    clear H
    have hnb60 := NB115_101.out
    have hnc60 := NB101_115.out
    have hnb61 := NB115_106.out
    have hnc61 := NB106_115.out
    have hnb62 := NB115_110.out
    have hnc62 := NB110_115.out
    have hnb63 := NB115_120.out
    have hnc63 := NB120_115.out
    have hnb64 := NB115_125.out
    have hnc64 := NB125_115.out
    obtain ⟨hcz65_0, hcz65_1, hcz65_2⟩ := hc3 BK115.out
    obtain ⟨hfz65_0, hfz65_1, hfz65_2⟩ := hf3 BK115.out
    have hnb66 := NB120_101.out
    have hnc66 := NB101_120.out
    have hnb67 := NB120_106.out
    have hnc67 := NB106_120.out
    have hnb68 := NB120_110.out
    have hnc68 := NB110_120.out
    have hnb69 := NB120_125.out
    have hnc69 := NB125_120.out
    obtain ⟨hcz70_0, hcz70_1, hcz70_2⟩ := hc3 BK120.out
    obtain ⟨hfz70_0, hfz70_1, hfz70_2⟩ := hf3 BK120.out
    go_wp2
    go_meet
    case rel => exact ⟨_, ((t124 != 11)), (by first | rfl | (simp; done) | (simp [*]; done)), H', ⟨by first | omega | exact Nat.le_refl _⟩, ⟨kp BK101.out⟩, ⟨kp BK106.out⟩, ⟨kp BK110.out⟩, ⟨kp BK115.out⟩, ⟨kp BK120.out⟩, ⟨kp (p3_2 (kp (p3_1 (kp (p3_0 (kp BK125.out))))))⟩, ⟨bl HB.out⟩⟩
   ·rw [if_neg c59] at H
    have c59b0 : (t114 == t119) = false := beq_eq_false_iff_ne.mpr c59
    have c59b1 : (t114 != t119) = true := bne_iff_ne.mpr c59
    have H' := Aside0.mk H
    clear H
    have hnb71 := NB115_101.out
    have hnc71 := NB101_115.out
    have hnb72 := NB115_106.out
    have hnc72 := NB106_115.out
    have hnb73 := NB115_110.out
    have hnc73 := NB110_115.out
    have hnb74 := NB115_120.out
    have hnc74 := NB120_115.out
    have hnb75 := NB115_125.out
    have hnc75 := NB125_115.out
    obtain ⟨hcz76_0, hcz76_1, hcz76_2⟩ := hc3 BK115.out
    obtain ⟨hfz76_0, hfz76_1, hfz76_2⟩ := hf3 BK115.out
    have hnb77 := NB120_101.out
    have hnc77 := NB101_120.out
    have hnb78 := NB120_106.out
    have hnc78 := NB106_120.out
    have hnb79 := NB120_110.out
    have hnc79 := NB110_120.out
    have hnb80 := NB120_125.out
    have hnc80 := NB125_120.out
    obtain ⟨hcz81_0, hcz81_1, hcz81_2⟩ := hc3 BK120.out
    obtain ⟨hfz81_0, hfz81_1, hfz81_2⟩ := hf3 BK120.out
    go_wp2
    go_meet
    case rel => exact ⟨_, (true), (by first | rfl | (simp; done) | (simp [*]; done)), H', ⟨by first | omega | exact Nat.le_refl _⟩, ⟨kp BK101.out⟩, ⟨kp BK106.out⟩, ⟨kp BK110.out⟩, ⟨kp BK115.out⟩, ⟨kp BK120.out⟩, ⟨kp (p3_2 (kp (p3_1 (kp (p3_0 (kp BK125.out))))))⟩, ⟨bl HB.out⟩⟩
 case rest =>
  clear HC8
  try clear c1
  try clear c2
  try clear p2
  try clear c3
  try clear c4
  try clear c5
  try clear c6
  try clear c7
  try clear c8
  try clear c10
  try clear c14
  try clear c15
  try clear c16
  try clear c17
  try clear c19
  try clear c20
  try clear c25
  try clear c26
  try clear c27
  try clear c33
  try clear c34
  try clear c35
  try clear c36
  try clear c41
  try clear c42
  try clear c43
  try clear c44
  try clear c45
  try clear c47
  try clear c47b0
  try clear c48
  try clear c49
  try clear c50
  try clear c51
  try clear c52
  try clear c54
  try clear c55
  try clear c56
  try clear c57
  try clear c59
  try clear c59b0
  try clear c59b1
  try clear c60
  try clear c61
  try clear c62
  try clear c63
  try clear c64
  try clear c66
  try clear c67
  try clear c68
  try clear c69
  try clear c71
  try clear c72
  try clear c73
  try clear c74
  try clear c75
  try clear c77
  try clear c78
  try clear c79
  try clear c80
  try clear hcz11_0
  try clear hcz11_1
  try clear hcz11_2
  try clear hcz11_3
  try clear hcz11_4
  try clear hcz11_5
  try clear hcz15_0
  try clear hcz15_1
  try clear hcz15_2
  try clear hcz16_0
  try clear hcz16_1
  try clear hcz16_2
  try clear hcz16_3
  try clear hcz16_4
  try clear hcz16_5
  try clear hcz21_0
  try clear hcz21_1
  try clear hcz21_2
  try clear hcz22_0
  try clear hcz22_1
  try clear hcz22_2
  try clear hcz28_0
  try clear hcz28_1
  try clear hcz28_2
  try clear hcz29_0
  try clear hcz29_1
  try clear hcz29_2
  try clear hcz30_0
  try clear hcz30_1
  try clear hcz30_2
  try clear hcz37_0
  try clear hcz37_1
  try clear hcz37_2
  try clear hcz38_0
  try clear hcz38_1
  try clear hcz38_2
  try clear hcz46_0
  try clear hcz46_1
  try clear hcz46_2
  try clear hcz53_0
  try clear hcz53_1
  try clear hcz53_2
  try clear hcz58_0
  try clear hcz58_1
  try clear hcz58_2
  try clear hcz65_0
  try clear hcz65_1
  try clear hcz65_2
  try clear hcz70_0
  try clear hcz70_1
  try clear hcz70_2
  try clear hcz76_0
  try clear hcz76_1
  try clear hcz76_2
  try clear hcz81_0
  try clear hcz81_1
  try clear hcz81_2
  try clear hfz11_0
  try clear hfz11_1
  try clear hfz11_2
  try clear hfz11_3
  try clear hfz11_4
  try clear hfz11_5
  try clear hfz15_0
  try clear hfz15_1
  try clear hfz15_2
  try clear hfz16_0
  try clear hfz16_1
  try clear hfz16_2
  try clear hfz16_3
  try clear hfz16_4
  try clear hfz16_5
  try clear hfz21_0
  try clear hfz21_1
  try clear hfz21_2
  try clear hfz22_0
  try clear hfz22_1
  try clear hfz22_2
  try clear hfz28_0
  try clear hfz28_1
  try clear hfz28_2
  try clear hfz29_0
  try clear hfz29_1
  try clear hfz29_2
  try clear hfz30_0
  try clear hfz30_1
  try clear hfz30_2
  try clear hfz37_0
  try clear hfz37_1
  try clear hfz37_2
  try clear hfz38_0
  try clear hfz38_1
  try clear hfz38_2
  try clear hfz46_0
  try clear hfz46_1
  try clear hfz46_2
  try clear hfz53_0
  try clear hfz53_1
  try clear hfz53_2
  try clear hfz58_0
  try clear hfz58_1
  try clear hfz58_2
  try clear hfz65_0
  try clear hfz65_1
  try clear hfz65_2
  try clear hfz70_0
  try clear hfz70_1
  try clear hfz70_2
  try clear hfz76_0
  try clear hfz76_1
  try clear hfz76_2
  try clear hfz81_0
  try clear hfz81_1
  try clear hfz81_2
  obtain ⟨kq, x50_7, rfl, HA, HJ7, BK101, BK106, BK110, BK115, BK120, BK125, HB⟩ := hcut
  cases kq with
  | zero => exact absurd HA.out (by simp [drachmlaw02_FracBack.j0])
  | succ kj7 =>
   have H := HA.out
   clear HA
   simp only [drachmlaw02_FracBack.j0] at H
   by_cases c82 : x50_7 = true
   ·subst c82
    have H1 : (none) = some r := by rw [if_pos rfl] at H; exact H
    clear H
    have H := H1
    clear H1
    exact absurd H (by simp)
   ·replace c82 := Bool.eq_false_iff.mpr c82
    subst c82
    have H1 : (if t114 = 0 then (drachmlaw02_FracBack.j1 kj7 t102 t114 (t107 == 0) t103 t104 t105 t107 t108 t109 t111 t112 t113) else (drachmlaw02_FracBack.j1 kj7 t102 t114 true t103 t104 t105 t107 t108 t109 t111 t112 t113)) = some r := by rw [if_neg (show ¬ (false = true) by decide)] at H; exact H
    clear H
    have H := H1
    clear H1
    have HC83 := Aside0.mk H
    clear H
    go_upto_region 9 with (fail)
    go_cut [57] (fun v57 wc => ∃ (kq : Nat) (x57_82 : Bool), v57 = .bool x57_82 ∧ Aside0 (drachmlaw02_FracBack.j1 kq t102 t114 x57_82 t103 t104 t105 t107 t108 t109 t111 t112 t113 = some r) ∧ Aside0 (kq ≤ kj7) ∧ Aside0 (wc.heap[gb101]? = some (.cells #[.int .i64 a0_0, .int .i64 a0_1, .int .i64 a0_2, .int .i64 a0_3, .int .i64 a0_4, .int .i64 a0_5] 37 (0, 0))) ∧ Aside0 (wc.heap[gb106]? = some (.cells #[.int .i64 t103, .int .i64 t104, .int .i64 t105] 24 (0, 0))) ∧ Aside0 (wc.heap[gb110]? = some (.cells #[.int .i64 t107, .int .i64 t108, .int .i64 t109] 24 (0, 0))) ∧ Aside0 (wc.heap[gb115]? = some (.cells #[.int .i64 t111, .int .i64 t112, .int .i64 t113] 24 (0, 0))) ∧ Aside0 (wc.heap[gb120]? = some (.cells #[.int .i64 t116, .int .i64 t117, .int .i64 t118] 24 (0, 0))) ∧ Aside0 (wc.heap[gb125]? = some (.cells #[.int .i64 t121, .int .i64 t122, .int .i64 t123] 24 (0, 0))) ∧ Aside0 (Below w.heap.size w wc))
    case first =>
     have H := HC83.out
     clear HC83
     by_cases c84 : t114 = 0
     ·rw [if_pos c84] at H
      have c84b0 : (t114 == 0) = true := beq_iff_eq.mpr c84
      have c84b1 : (t114 != 0) = false := bne_eq_false_iff_eq.mpr c84
      clear c84
      (first | rw [c84b0] | (simp only [i64_w, i32_w]; rw [c84b0]) | skip)
      have H' := Aside0.mk H
      clear H
      have hnb85 := NB110_101.out
      have hnc85 := NB101_110.out
      have hnb86 := NB110_106.out
      have hnc86 := NB106_110.out
      have hnb87 := NB110_115.out
      have hnc87 := NB115_110.out
      have hnb88 := NB110_120.out
      have hnc88 := NB120_110.out
      have hnb89 := NB110_125.out
      have hnc89 := NB125_110.out
      obtain ⟨hcz90_0, hcz90_1, hcz90_2⟩ := hc3 BK110.out
      obtain ⟨hfz90_0, hfz90_1, hfz90_2⟩ := hf3 BK110.out
      go_wp2
      go_meet
      case rel => exact ⟨_, ((t107 == 0)), (by first | rfl | (simp; done) | (simp [*]; done)), H', ⟨by have := HJ7.out; first | omega | exact Nat.le_refl _⟩, ⟨kp BK101.out⟩, ⟨kp BK106.out⟩, ⟨kp BK110.out⟩, ⟨kp BK115.out⟩, ⟨kp BK120.out⟩, ⟨kp BK125.out⟩, ⟨bl HB.out⟩⟩
     ·rw [if_neg c84] at H
      have c84b0 : (t114 == 0) = false := beq_eq_false_iff_ne.mpr c84
      have c84b1 : (t114 != 0) = true := bne_iff_ne.mpr c84
      (first | rw [c84b0] | (simp only [i64_w, i32_w]; rw [c84b0]) | skip)
      have H' := Aside0.mk H
      clear H
      go_wp2
      go_meet
      case rel => exact ⟨_, (true), (by first | rfl | (simp; done) | (simp [*]; done)), H', ⟨by have := HJ7.out; first | omega | exact Nat.le_refl _⟩, ⟨kp BK101.out⟩, ⟨kp BK106.out⟩, ⟨kp BK110.out⟩, ⟨kp BK115.out⟩, ⟨kp BK120.out⟩, ⟨kp BK125.out⟩, ⟨bl HB.out⟩⟩
    case rest =>
     clear HC83
     try clear c1
     try clear c2
     try clear p2
     try clear c3
     try clear c4
     try clear c5
     try clear c6
     try clear c7
     try clear c8
     try clear c10
     try clear c14
     try clear c15
     try clear c16
     try clear c17
     try clear c19
     try clear c20
     try clear c25
     try clear c26
     try clear c27
     try clear c33
     try clear c34
     try clear c35
     try clear c36
     try clear c41
     try clear c42
     try clear c43
     try clear c44
     try clear c45
     try clear c47
     try clear c47b0
     try clear c48
     try clear c49
     try clear c50
     try clear c51
     try clear c52
     try clear c54
     try clear c55
     try clear c56
     try clear c57
     try clear c59
     try clear c59b0
     try clear c59b1
     try clear c60
     try clear c61
     try clear c62
     try clear c63
     try clear c64
     try clear c66
     try clear c67
     try clear c68
     try clear c69
     try clear c71
     try clear c72
     try clear c73
     try clear c74
     try clear c75
     try clear c77
     try clear c78
     try clear c79
     try clear c80
     try clear c82
     try clear c84
     try clear c84b0
     try clear c84b1
     try clear c85
     try clear c86
     try clear c87
     try clear c88
     try clear c89
     try clear hcz11_0
     try clear hcz11_1
     try clear hcz11_2
     try clear hcz11_3
     try clear hcz11_4
     try clear hcz11_5
     try clear hcz15_0
     try clear hcz15_1
     try clear hcz15_2
     try clear hcz16_0
     try clear hcz16_1
     try clear hcz16_2
     try clear hcz16_3
     try clear hcz16_4
     try clear hcz16_5
     try clear hcz21_0
     try clear hcz21_1
     try clear hcz21_2
     try clear hcz22_0
     try clear hcz22_1
     try clear hcz22_2
     try clear hcz28_0
     try clear hcz28_1
     try clear hcz28_2
     try clear hcz29_0
     try clear hcz29_1
     try clear hcz29_2
     try clear hcz30_0
     try clear hcz30_1
     try clear hcz30_2
     try clear hcz37_0
     try clear hcz37_1
     try clear hcz37_2
     try clear hcz38_0
     try clear hcz38_1
     try clear hcz38_2
     try clear hcz46_0
     try clear hcz46_1
     try clear hcz46_2
     try clear hcz53_0
     try clear hcz53_1
     try clear hcz53_2
     try clear hcz58_0
     try clear hcz58_1
     try clear hcz58_2
     try clear hcz65_0
     try clear hcz65_1
     try clear hcz65_2
     try clear hcz70_0
     try clear hcz70_1
     try clear hcz70_2
     try clear hcz76_0
     try clear hcz76_1
     try clear hcz76_2
     try clear hcz81_0
     try clear hcz81_1
     try clear hcz81_2
     try clear hcz90_0
     try clear hcz90_1
     try clear hcz90_2
     try clear hfz11_0
     try clear hfz11_1
     try clear hfz11_2
     try clear hfz11_3
     try clear hfz11_4
     try clear hfz11_5
     try clear hfz15_0
     try clear hfz15_1
     try clear hfz15_2
     try clear hfz16_0
     try clear hfz16_1
     try clear hfz16_2
     try clear hfz16_3
     try clear hfz16_4
     try clear hfz16_5
     try clear hfz21_0
     try clear hfz21_1
     try clear hfz21_2
     try clear hfz22_0
     try clear hfz22_1
     try clear hfz22_2
     try clear hfz28_0
     try clear hfz28_1
     try clear hfz28_2
     try clear hfz29_0
     try clear hfz29_1
     try clear hfz29_2
     try clear hfz30_0
     try clear hfz30_1
     try clear hfz30_2
     try clear hfz37_0
     try clear hfz37_1
     try clear hfz37_2
     try clear hfz38_0
     try clear hfz38_1
     try clear hfz38_2
     try clear hfz46_0
     try clear hfz46_1
     try clear hfz46_2
     try clear hfz53_0
     try clear hfz53_1
     try clear hfz53_2
     try clear hfz58_0
     try clear hfz58_1
     try clear hfz58_2
     try clear hfz65_0
     try clear hfz65_1
     try clear hfz65_2
     try clear hfz70_0
     try clear hfz70_1
     try clear hfz70_2
     try clear hfz76_0
     try clear hfz76_1
     try clear hfz76_2
     try clear hfz81_0
     try clear hfz81_1
     try clear hfz81_2
     try clear hfz90_0
     try clear hfz90_1
     try clear hfz90_2
     try clear p2
     obtain ⟨kq, x57_82, rfl, HA, HJ82, BK101, BK106, BK110, BK115, BK120, BK125, HB⟩ := hcut
     cases kq with
     | zero => exact absurd HA.out (by simp [drachmlaw02_FracBack.j1])
     | succ kj82 =>
      have H := HA.out
      clear HA
      simp only [drachmlaw02_FracBack.j1] at H
      by_cases c91 : x57_82 = true
      ·subst c91
       have H1 : (if t102 = true then (if t114 = 0 then (some true) else (some (t114 == 10))) else (none)) = some r := by rw [if_pos rfl] at H; exact H
       clear H
       have H := H1
       clear H1
       by_cases c92 : t102 = true
       ·subst c92
        have H1 : (if t114 = 0 then (some true) else (some (t114 == 10))) = some r := by rw [if_pos rfl] at H; exact H
        clear H
        have H := H1
        clear H1
        by_cases c93 : t114 = 0
        ·rw [if_pos c93] at H
         have c93b0 : (t114 == 0) = true := beq_iff_eq.mpr c93
         have c93b1 : (t114 != 0) = false := bne_eq_false_iff_eq.mpr c93
         clear c93
         obtain rfl := Option.some.inj H
         go_wp2
         go_ret
         exact ⟨by first | rfl | (simp [errW_none, errW_some] <;> rfl) | (simp [*, errW_none, errW_some] <;> rfl), bl HB.out⟩
        ·rw [if_neg c93] at H
         have c93b0 : (t114 == 0) = false := beq_eq_false_iff_ne.mpr c93
         have c93b1 : (t114 != 0) = true := bne_iff_ne.mpr c93
         obtain rfl := Option.some.inj H
         go_wp2
         go_ret
         exact ⟨by first | rfl | (simp [errW_none, errW_some] <;> rfl) | (simp [*, errW_none, errW_some] <;> rfl), bl HB.out⟩
       ·replace c92 := Bool.eq_false_iff.mpr c92
        subst c92
        have H1 : (none) = some r := by rw [if_neg (show ¬ (false = true) by decide)] at H; exact H
        clear H
        have H := H1
        clear H1
        exact absurd H (by simp)
      ·replace c91 := Bool.eq_false_iff.mpr c91
       subst c91
       have H1 : ((frac_Div.f kj82 t111 t112 t113 t107 t108 t109).bind fun bt126 => (if t102 = true then (if bt126.2.2.2 = 0 then (if (bt126.1 == t103 && (bt126.2.1 == t104 && (bt126.2.2.1 == t105))) = true then ((frac_Right.f kj82 t111 t112 t113).bind fun t131 => (some t131)) else (none)) else (none)) else (none))) = some r := by rw [if_neg (show ¬ (false = true) by decide)] at H; exact H
       clear H
       have H := H1
       clear H1
       replace H := Option.bind_eq_some_iff.mp H
       obtain ⟨⟨t126, t127, t128, t129⟩, A940, H⟩ := H
       replace H : (if t102 = true then (if t129 = 0 then (if (t126 == t103 && (t127 == t104 && (t128 == t105))) = true then ((frac_Right.f kj82 t111 t112 t113).bind fun t131 => (some t131)) else (none)) else (none)) else (none)) = some r := H
       have A94 := Aside0.mk A940
       clear A940
       by_cases c95 : t102 = true
       ·subst c95
        have H1 : (if t129 = 0 then (if (t126 == t103 && (t127 == t104 && (t128 == t105))) = true then ((frac_Right.f kj82 t111 t112 t113).bind fun t131 => (some t131)) else (none)) else (none)) = some r := by rw [if_pos rfl] at H; exact H
        clear H
        have H := H1
        clear H1
        by_cases c96 : t129 = 0
        ·rw [if_pos c96] at H
         have c96b0 : (t129 == 0) = true := beq_iff_eq.mpr c96
         have c96b1 : (t129 != 0) = false := bne_eq_false_iff_eq.mpr c96
         clear c96
         by_cases c97 : (t126 == t103 && (t127 == t104 && (t128 == t105))) = true
         ·rw [if_pos c97] at H
          have c97b0 : (t126 == t103 && (t127 == t104 && (t128 == t105))) = true := c97
          (try (have c97b1 : decide (t126 = t103 && (t127 == t104 && (t128 == t105))) = true := by simpa using c97))
          (try (have c97b2 : (t126 == t103 && (t127 == t104 && (t128 == t105))) = true := by simpa using c97))
          clear c97
          replace H := Option.bind_eq_some_iff.mp H
          obtain ⟨t131, A980, H⟩ := H
          replace H : (some t131) = some r := H
          have A98 := Aside0.mk A980
          clear A980
          obtain rfl := Option.some.inj H
          have hnb99 := NB115_101.out
          have hnc99 := NB101_115.out
          have hnb100 := NB115_106.out
          have hnc100 := NB106_115.out
          have hnb101 := NB115_110.out
          have hnc101 := NB110_115.out
          have hnb102 := NB115_120.out
          have hnc102 := NB120_115.out
          have hnb103 := NB115_125.out
          have hnc103 := NB125_115.out
          obtain ⟨hcz104_0, hcz104_1, hcz104_2⟩ := hc3 BK115.out
          obtain ⟨hfz104_0, hfz104_1, hfz104_2⟩ := hf3 BK115.out
          have hnb105 := NB110_101.out
          have hnc105 := NB101_110.out
          have hnb106 := NB110_106.out
          have hnc106 := NB106_110.out
          have hnb107 := NB110_120.out
          have hnc107 := NB120_110.out
          have hnb108 := NB110_125.out
          have hnc108 := NB125_110.out
          obtain ⟨hcz109_0, hcz109_1, hcz109_2⟩ := hc3 BK110.out
          obtain ⟨hfz109_0, hfz109_1, hfz109_2⟩ := hf3 BK110.out
          go_wp2_with (first | ((with_reducible refine gate_callee (f := 17) rfl ?_); refine goesL_ (some 70) rfl rfl Tryd.func17 (by kernel_rfl) rfl #[.agg #[.int .i64 t111, .int .i64 t112, .int .i64 t113], .agg #[.int .i64 t107, .int .i64 t108, .int .i64 t109]] rfl (by (try simp only [List.map_toArray, List.map_cons, List.map_nil]); first | done | rfl | (simp only [List.length_drop, List.length_take]; rfl)) ?_; (with_reducible refine (frac_Div.calls kj82 t111 t112 t113 t107 t108 t109 t126 t127 t128 t129 _ (Glob.use hG (by decide) (bl HB.out)) A94.out).mono ?_); rintro e w110 ⟨rfl, hb⟩; refine ⟨_, rfl, ?_⟩; replace BK101 := Aside0.mk (blk_below (kp BK101.out) hb); replace BK106 := Aside0.mk (blk_below (kp BK106.out) hb); replace BK110 := Aside0.mk (blk_below (kp BK110.out) hb); replace BK115 := Aside0.mk (blk_below (kp BK115.out) hb); replace BK120 := Aside0.mk (blk_below (kp BK120.out) hb); replace BK125 := Aside0.mk (blk_below (kp BK125.out) hb); replace HB := Aside0.mk (below_step (bl HB.out) hb); (try clear hb); (try clear hb2); (try clear hk); (try clear hi)) | ((with_reducible refine gate_dst (N := 12) rfl ?_); refine box_event ?hg (N := 12) ?hd (cs := #[.int .i64 0, .int .i64 0, .int .i64 0]) (t := 24) ?hr ?_; (case hd => rfl); (case hg => rfl); (case hr => first | (go_simp; done) | (go_simp; rfl)); intro gb130 hg w111 hbox hb; have n0_ := Aside0.mk (blk_below (kp BK101.out) hb); have n1_ := Aside0.mk (blk_below (kp BK106.out) hb); have n2_ := Aside0.mk (blk_below (kp BK110.out) hb); have n3_ := Aside0.mk (blk_below (kp BK115.out) hb); have n4_ := Aside0.mk (blk_below (kp BK120.out) hb); have n5_ := Aside0.mk (blk_below (kp BK125.out) hb); have n6_ := Aside0.mk (below_step (bl HB.out) hb); have n7_ := Aside0.mk (hbox); have n8_ := Aside0.mk ((by rw [hg]; exact (below_size (bl HB.out)) : w.heap.size ≤ gb130)); have n9_ := Aside0.mk ((by rw [hg]; exact (below_size (bl HB.out)) : w.heap.size ≤ gb130)); have n10_ := Aside0.mk ((by rw [hg]; exact Nat.ne_of_lt (blk_lt (kp BK101.out)) : gb101 ≠ gb130)); have n11_ := Aside0.mk ((by rw [hg]; exact Nat.ne_of_gt (blk_lt (kp BK101.out)) : gb130 ≠ gb101)); have n12_ := Aside0.mk ((by rw [hg]; exact Nat.ne_of_lt (blk_lt (kp BK106.out)) : gb106 ≠ gb130)); have n13_ := Aside0.mk ((by rw [hg]; exact Nat.ne_of_gt (blk_lt (kp BK106.out)) : gb130 ≠ gb106)); have n14_ := Aside0.mk ((by rw [hg]; exact Nat.ne_of_lt (blk_lt (kp BK110.out)) : gb110 ≠ gb130)); have n15_ := Aside0.mk ((by rw [hg]; exact Nat.ne_of_gt (blk_lt (kp BK110.out)) : gb130 ≠ gb110)); have n16_ := Aside0.mk ((by rw [hg]; exact Nat.ne_of_lt (blk_lt (kp BK115.out)) : gb115 ≠ gb130)); have n17_ := Aside0.mk ((by rw [hg]; exact Nat.ne_of_gt (blk_lt (kp BK115.out)) : gb130 ≠ gb115)); have n18_ := Aside0.mk ((by rw [hg]; exact Nat.ne_of_lt (blk_lt (kp BK120.out)) : gb120 ≠ gb130)); have n19_ := Aside0.mk ((by rw [hg]; exact Nat.ne_of_gt (blk_lt (kp BK120.out)) : gb130 ≠ gb120)); have n20_ := Aside0.mk ((by rw [hg]; exact Nat.ne_of_lt (blk_lt (kp BK125.out)) : gb125 ≠ gb130)); have n21_ := Aside0.mk ((by rw [hg]; exact Nat.ne_of_gt (blk_lt (kp BK125.out)) : gb130 ≠ gb125)); clear BK101; clear BK106; clear BK110; clear BK115; clear BK120; clear BK125; clear HB; have BK101 := n0_; have BK106 := n1_; have BK110 := n2_; have BK115 := n3_; have BK120 := n4_; have BK125 := n5_; have HB := n6_; have BK130 := n7_; have GW130 := n8_; have GE130 := n9_; have NB101_130 := n10_; have NB130_101 := n11_; have NB106_130 := n12_; have NB130_106 := n13_; have NB110_130 := n14_; have NB130_110 := n15_; have NB115_130 := n16_; have NB130_115 := n17_; have NB120_130 := n18_; have NB130_120 := n19_; have NB125_130 := n20_; have NB130_125 := n21_; clear n0_ n1_ n2_ n3_ n4_ n5_ n6_ n7_ n8_ n9_ n10_ n11_ n12_ n13_ n14_ n15_ n16_ n17_ n18_ n19_ n20_ n21_; clear hb hbox hg; have hnb112 := NB130_101.out; have hnc112 := NB101_130.out; have hnb113 := NB130_106.out; have hnc113 := NB106_130.out; have hnb114 := NB130_110.out; have hnc114 := NB110_130.out; have hnb115 := NB130_115.out; have hnc115 := NB115_130.out; have hnb116 := NB130_120.out; have hnc116 := NB120_130.out; have hnb117 := NB130_125.out; have hnc117 := NB125_130.out; obtain ⟨hcz118_0, hcz118_1, hcz118_2⟩ := hc3 BK130.out; obtain ⟨hfz118_0, hfz118_1, hfz118_2⟩ := hf3 BK130.out; have hnb119 := NB106_101.out; have hnc119 := NB101_106.out; have hnb120 := NB106_120.out; have hnc120 := NB120_106.out; have hnb121 := NB106_125.out; have hnc121 := NB125_106.out; obtain ⟨hcz122_0, hcz122_1, hcz122_2⟩ := hc3 BK106.out; obtain ⟨hfz122_0, hfz122_1, hfz122_2⟩ := hf3 BK106.out; obtain ⟨hcz123_0, hcz123_1, hcz123_2⟩ := hc3 BK115.out; obtain ⟨hfz123_0, hfz123_1, hfz123_2⟩ := hf3 BK115.out) | (go_at_call 13; (with_reducible refine (frac_Right.calls kj82 t111 t112 t113 t131 _ A98.out).mono ?_); rintro e w124 ⟨rfl, hb⟩; replace BK101 := Aside0.mk (blk_below (kp BK101.out) hb); replace BK106 := Aside0.mk (blk_below (kp BK106.out) hb); replace BK110 := Aside0.mk (blk_below (kp BK110.out) hb); replace BK115 := Aside0.mk (blk_below (kp BK115.out) hb); replace BK120 := Aside0.mk (blk_below (kp BK120.out) hb); replace BK125 := Aside0.mk (blk_below (kp BK125.out) hb); replace BK130 := Aside0.mk (blk_below (kp (p3_2 (kp (p3_1 (kp (p3_0 (kp BK130.out))))))) hb); replace HB := Aside0.mk (below_step (bl HB.out) hb); (try clear hb); (try clear hb2); (try clear hk); (try clear hi)))
          go_ret
          exact ⟨by first | rfl | (simp [errW_none, errW_some] <;> rfl) | (simp [*, errW_none, errW_some] <;> rfl), bl HB.out⟩
         ·rw [if_neg c97] at H
          exact absurd H (by simp)
        ·rw [if_neg c96] at H
         exact absurd H (by simp)
       ·replace c95 := Bool.eq_false_iff.mpr c95
        subst c95
        have H1 : (none) = some r := by rw [if_neg (show ¬ (false = true) by decide)] at H; exact H
        clear H
        have H := H1
        clear H1
        exact absurd H (by simp)

/-- THE ONE PURE STATEMENT of drachmlaw02_FracBack: yours. -/
def drachmlaw02_FracBack.Pure : Prop := ∀ (a0_0 : Int) (a0_1 : Int) (a0_2 : Int) (a0_3 : Int) (a0_4 : Int) (a0_5 : Int), (Lit.int .i64 a0_0).wf = true → (Lit.int .i64 a0_1).wf = true → (Lit.int .i64 a0_2).wf = true → (Lit.int .i64 a0_3).wf = true → (Lit.int .i64 a0_4).wf = true → (Lit.int .i64 a0_5).wf = true → ∃ k, drachmlaw02_FracBack.f k a0_0 a0_1 a0_2 a0_3 a0_4 a0_5 = some true
theorem drachmlaw02_FracBack.walk (P : drachmlaw02_FracBack.Pure) (a0_0 : Int) (a0_1 : Int) (a0_2 : Int) (a0_3 : Int) (a0_4 : Int) (a0_5 : Int) (w : World) (hG : Glob [1] w) (w0_0 : (Lit.int .i64 a0_0).wf = true) (w0_1 : (Lit.int .i64 a0_1).wf = true) (w0_2 : (Lit.int .i64 a0_2).wf = true) (w0_3 : (Lit.int .i64 a0_3).wf = true) (w0_4 : (Lit.int .i64 a0_4).wf = true) (w0_5 : (Lit.int .i64 a0_5).wf = true) :
  Calls Tryd.prog 5 #[.agg #[.int .i64 a0_0, .int .i64 a0_1, .int .i64 a0_2, .int .i64 a0_3, .int .i64 a0_4, .int .i64 a0_5]] w fun e w' => e = .returned (.bool true) ∧ Below w.heap.size w w' := by
 obtain ⟨k, h⟩ := P a0_0 a0_1 a0_2 a0_3 a0_4 a0_5 w0_0 w0_1 w0_2 w0_3 w0_4 w0_5
 refine (drachmlaw02_FracBack.calls k a0_0 a0_1 a0_2 a0_3 a0_4 a0_5 true w hG h).mono ?_
 rintro e w' ⟨rfl, hd⟩
 exact ⟨rfl, hd⟩

end Go.Proofs.YtnndaackjgnhhaaDoor.PFracBack
