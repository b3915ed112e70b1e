/- Printed by a program of this session (wip/tools/prt.py) out of the translation: plain functions, and that the calls come to just them. No conditions beyond those that stand in each theorem. -/
import Derived.Test.YtgcaelopcdpkgaaDoorGlob
import Derived.Test.YtgcaelopcdpkgaaDoorPStyleApartx0
namespace Go.Proofs.YtgcaelopcdpkgaaDoor.PStyleApart
open Go.RowKit Go.Proofs.YtgcaelopcdpkgaaDoorW.PrintWords Go.Proofs.YtgcaelopcdpkgaaDoorW.PrintLast Go.Proofs.YtgcaelopcdpkgaaDoorW.PrintMore Go.Proofs.YtgcaelopcdpkgaaDoor.PBase
attribute [local go_sem] max2_int min2_int max_two min_two max_three min_three max_four min_four   -- for this text's walks alone
set_option linter.unusedVariables false
set_option linter.unusedSimpArgs false

/-! ### drachmlaw07_StyleApart: function 3 -/
mutual
def drachmlaw07_StyleApart.l0 : Nat → Bool → Int → Bool → Int → Bool → Int → Int → Int → Int → Int → Int → Int → Int → Int → Int → Int → Int → Int → Int → Int → Option (Bool)
  | 0, _, _, _, _, _, _, _, _, _, _, _, _, _, _, _, _, _, _, _, _ => none
  | k + 1, x3, x4, x6, x9, x111000, x111001, x111002, x111003, x111004, x111005, x112000, x112001, x112002, x112003, x112004, x113000, x113001, x113002, x113003, x113004 => if x9 < 5 then (if 0 ≤ x9 then (if (rd [x112000, x112001, x112002, x112003, x112004] x9) = 0 then (if x9 < 2 then (some false) else (drachmlaw07_StyleApart.l0 k x3 x4 x6 (wrap64 (x9 + 1)) x111000 x111001 x111002 x111003 x111004 x111005 x112000 x112001 x112002 x112003 x112004 x113000 x113001 x113002 x113003 x113004)) else ((style_Kind.f k x4 (rd [x112000, x112001, x112002, x112003, x112004] x9)).bind fun t113 => (if t113 = (rd [x113000, x113001, x113002, x113003, x113004] x9) then (drachmlaw07_StyleApart.l1 k x3 x4 x6 x9 0 x111000 x111001 x111002 x111003 x111004 x111005 x112000 x112001 x112002 x112003 x112004 x113000 x113001 x113002 x113003 x113004) else (some false)))) else (none)) else (if x3 = true then (if x6 = true then (some ((x111004 == 0) == (x111005 == 0))) else (some false)) else (some false))
def drachmlaw07_StyleApart.l1 : Nat → Bool → Int → Bool → Int → Int → Bool → Int → Int → Int → Int → Int → Int → Int → Int → Int → Int → Int → Int → Int → Int → Int → Option (Bool)
  | 0, _, _, _, _, _, _, _, _, _, _, _, _, _, _, _, _, _, _, _, _, _ => none
  | k + 1, x3, x4, x6, x9, x10, x111000, x111001, x111002, x111003, x111004, x111005, x112000, x112001, x112002, x112003, x112004, x113000, x113001, x113002, x113003, x113004 => if x10 < x9 then (if 0 ≤ x9 then (if x9 < 5 then (if 0 ≤ x10 then (if x10 < 5 then (if (rd [x112000, x112001, x112002, x112003, x112004] x9) = (rd [x112000, x112001, x112002, x112003, x112004] x10) then (some false) else (drachmlaw07_StyleApart.l1 k x3 x4 x6 x9 (wrap64 (x10 + 1)) x111000 x111001 x111002 x111003 x111004 x111005 x112000 x112001 x112002 x112003 x112004 x113000 x113001 x113002 x113003 x113004)) else (none)) else (none)) else (none)) else (none)) else (drachmlaw07_StyleApart.l0 k x3 x4 x6 (wrap64 (x9 + 1)) x111000 x111001 x111002 x111003 x111004 x111005 x112000 x112001 x112002 x112003 x112004 x113000 x113001 x113002 x113003 x113004)
end
def drachmlaw07_StyleApart.f (k : Nat) (a0 : Int) : Option (Bool) := (drachmlaw07_awake.f k).bind fun t101 => ((drachmlaw07_rest.f a0 5).bind fun t102 => ((style_Of.f (wrap64 (1 + t102))).bind fun bt103 => (drachmlaw07_StyleApart.l0 k t101 (wrap64 (1 + t102)) bt103.2.2.2.2.2.2 0 bt103.1 bt103.2.1 bt103.2.2.1 bt103.2.2.2.1 bt103.2.2.2.2.1 bt103.2.2.2.2.2.1 bt103.2.1 bt103.2.2.1 bt103.2.2.2.1 bt103.2.2.2.2.1 bt103.2.2.2.2.2.1 4 5 6 9 10)))
theorem drachmlaw07_StyleApart.mono_l : ∀ k, (∀ y0 y1 y2 y3 y4 y5 y6 y7 y8 y9 y10 y11 y12 y13 y14 y15 y16 y17 y18 y19, LeO (drachmlaw07_StyleApart.l0 k y0 y1 y2 y3 y4 y5 y6 y7 y8 y9 y10 y11 y12 y13 y14 y15 y16 y17 y18 y19) (drachmlaw07_StyleApart.l0 (k + 1) y0 y1 y2 y3 y4 y5 y6 y7 y8 y9 y10 y11 y12 y13 y14 y15 y16 y17 y18 y19)) ∧ (∀ y0 y1 y2 y3 y4 y5 y6 y7 y8 y9 y10 y11 y12 y13 y14 y15 y16 y17 y18 y19 y20, LeO (drachmlaw07_StyleApart.l1 k y0 y1 y2 y3 y4 y5 y6 y7 y8 y9 y10 y11 y12 y13 y14 y15 y16 y17 y18 y19 y20) (drachmlaw07_StyleApart.l1 (k + 1) y0 y1 y2 y3 y4 y5 y6 y7 y8 y9 y10 y11 y12 y13 y14 y15 y16 y17 y18 y19 y20))
  | 0 => ⟨fun _ _ _ _ _ _ _ _ _ _ _ _ _ _ _ _ _ _ _ _ r h => by simp [drachmlaw07_StyleApart.l0] at h, fun _ _ _ _ _ _ _ _ _ _ _ _ _ _ _ _ _ _ _ _ _ r h => by simp [drachmlaw07_StyleApart.l1] at h⟩
  | k + 1 => by
    obtain ⟨ih0, ih1⟩ := drachmlaw07_StyleApart.mono_l k
    refine ⟨?_, ?_⟩
    · intro y0 y1 y2 y3 y4 y5 y6 y7 y8 y9 y10 y11 y12 y13 y14 y15 y16 y17 y18 y19
      unfold drachmlaw07_StyleApart.l0
      repeat' first
      | (with_reducible exact ih0 _ _ _ _ _ _ _ _ _ _ _ _ _ _ _ _ _ _ _ _)
      | (with_reducible exact ih1 _ _ _ _ _ _ _ _ _ _ _ _ _ _ _ _ _ _ _ _ _)
      | (with_reducible exact drachmlaw07_awake.mono _)
      | (with_reducible exact style_Kind.mono _ _ _)
      | (with_reducible exact LeO.refl _)
      | (with_reducible exact LeO.none _)
      | (with_reducible refine LeO.ite ?_ ?_)
      | (with_reducible refine LeO.bind ?_ (fun _ => ?_))
      | exact ih0 _ _ _ _ _ _ _ _ _ _ _ _ _ _ _ _ _ _ _ _
      | exact ih1 _ _ _ _ _ _ _ _ _ _ _ _ _ _ _ _ _ _ _ _ _
      | exact drachmlaw07_awake.mono _
      | exact style_Kind.mono _ _ _
      | exact LeO.none _
      | refine LeO.ite ?_ ?_
      | refine LeO.bind ?_ (fun _ => ?_)
    · intro y0 y1 y2 y3 y4 y5 y6 y7 y8 y9 y10 y11 y12 y13 y14 y15 y16 y17 y18 y19 y20
      unfold drachmlaw07_StyleApart.l1
      repeat' first
      | (with_reducible exact ih0 _ _ _ _ _ _ _ _ _ _ _ _ _ _ _ _ _ _ _ _)
      | (with_reducible exact ih1 _ _ _ _ _ _ _ _ _ _ _ _ _ _ _ _ _ _ _ _ _)
      | (with_reducible exact drachmlaw07_awake.mono _)
      | (with_reducible exact style_Kind.mono _ _ _)
      | (with_reducible exact LeO.refl _)
      | (with_reducible exact LeO.none _)
      | (with_reducible refine LeO.ite ?_ ?_)
      | (with_reducible refine LeO.bind ?_ (fun _ => ?_))
      | exact ih0 _ _ _ _ _ _ _ _ _ _ _ _ _ _ _ _ _ _ _ _
      | exact ih1 _ _ _ _ _ _ _ _ _ _ _ _ _ _ _ _ _ _ _ _ _
      | exact drachmlaw07_awake.mono _
      | exact style_Kind.mono _ _ _
      | exact LeO.none _
      | refine LeO.ite ?_ ?_
      | refine LeO.bind ?_ (fun _ => ?_)
theorem drachmlaw07_StyleApart.mono : ∀ a0 k, LeO (drachmlaw07_StyleApart.f k a0) (drachmlaw07_StyleApart.f (k + 1) a0) := by
  intro a0 k
  obtain ⟨ih0, ih1⟩ := drachmlaw07_StyleApart.mono_l k
  unfold drachmlaw07_StyleApart.f
  repeat' first
      | (with_reducible exact ih0 _ _ _ _ _ _ _ _ _ _ _ _ _ _ _ _ _ _ _ _)
      | (with_reducible exact ih1 _ _ _ _ _ _ _ _ _ _ _ _ _ _ _ _ _ _ _ _ _)
      | (with_reducible exact drachmlaw07_awake.mono _)
      | (with_reducible exact style_Kind.mono _ _ _)
      | (with_reducible exact LeO.refl _)
      | (with_reducible exact LeO.none _)
      | (with_reducible refine LeO.ite ?_ ?_)
      | (with_reducible refine LeO.bind ?_ (fun _ => ?_))
      | exact ih0 _ _ _ _ _ _ _ _ _ _ _ _ _ _ _ _ _ _ _ _
      | exact ih1 _ _ _ _ _ _ _ _ _ _ _ _ _ _ _ _ _ _ _ _ _
      | exact drachmlaw07_awake.mono _
      | exact style_Kind.mono _ _ _
      | exact LeO.none _
      | refine LeO.ite ?_ ?_
      | refine LeO.bind ?_ (fun _ => ?_)
def drachmlaw07_StyleApart.T12 : Bool × List (List Nat × List Nat) := (true, [([], []), ([], []), ([1], [1]), ([2], [2]), ([0, 3], [0, 3]), ([], []), ([5], [5]), ([6], [6]), ([4, 7], [4, 7])])
def drachmlaw07_StyleApart.B12 : List Nat := [0, 0, 2, 6, 15, 0, 32, 96, 255]
theorem drachmlaw07_StyleApart.tab12 : rtab .any (opsOf Tryd.f3 12) = drachmlaw07_StyleApart.T12 := by kernel_rfl
theorem drachmlaw07_StyleApart.bits12 : waitsOk drachmlaw07_StyleApart.T12.2 drachmlaw07_StyleApart.B12 = true := by kernel_rfl
set_option maxHeartbeats 8000000 in
set_option maxRecDepth 100000 in
theorem drachmlaw07_StyleApart.calls (k : Nat) (a0 : Int) (r : Bool) (w : World) (hG : Glob [0] w) (h : drachmlaw07_StyleApart.f k a0 = some r) :
    Calls Tryd.prog 3 #[.int .i64 a0] w fun e w' => e = .returned (.bool r) ∧ Below w.heap.size w w' := by
  have hu25 := Tryd.underlying25
  have hu28 := Tryd.underlying28
  have hu29 := Tryd.underlying29
  have HB := Aside0.mk (Below.refl w.heap.size w)
  have H : ((drachmlaw07_awake.f k).bind fun t101 => ((drachmlaw07_rest.f a0 5).bind fun t102 => ((style_Of.f (wrap64 (1 + t102))).bind fun bt103 => (drachmlaw07_StyleApart.l0 k t101 (wrap64 (1 + t102)) bt103.2.2.2.2.2.2 0 bt103.1 bt103.2.1 bt103.2.2.1 bt103.2.2.2.1 bt103.2.2.2.2.1 bt103.2.2.2.2.2.1 bt103.2.1 bt103.2.2.1 bt103.2.2.2.1 bt103.2.2.2.2.1 bt103.2.2.2.2.2.1 4 5 6 9 10)))) = some r := h
  clear h
  replace H := Option.bind_eq_some_iff.mp H
  obtain ⟨t101, A20, H⟩ := H
  replace H : ((drachmlaw07_rest.f a0 5).bind fun t102 => ((style_Of.f (wrap64 (1 + t102))).bind fun bt103 => (drachmlaw07_StyleApart.l0 k t101 (wrap64 (1 + t102)) bt103.2.2.2.2.2.2 0 bt103.1 bt103.2.1 bt103.2.2.1 bt103.2.2.2.1 bt103.2.2.2.2.1 bt103.2.2.2.2.2.1 bt103.2.1 bt103.2.2.1 bt103.2.2.2.1 bt103.2.2.2.2.1 bt103.2.2.2.2.2.1 4 5 6 9 10))) = some r := H
  have A2 := Aside0.mk A20
  clear A20
  replace H := Option.bind_eq_some_iff.mp H
  obtain ⟨t102, A30, H⟩ := H
  replace H : ((style_Of.f (wrap64 (1 + t102))).bind fun bt103 => (drachmlaw07_StyleApart.l0 k t101 (wrap64 (1 + t102)) bt103.2.2.2.2.2.2 0 bt103.1 bt103.2.1 bt103.2.2.1 bt103.2.2.2.1 bt103.2.2.2.2.1 bt103.2.2.2.2.2.1 bt103.2.1 bt103.2.2.1 bt103.2.2.2.1 bt103.2.2.2.2.1 bt103.2.2.2.2.2.1 4 5 6 9 10)) = some r := H
  have A3 := Aside0.mk A30
  clear A30
  replace H := Option.bind_eq_some_iff.mp H
  obtain ⟨⟨t103, t104, t105, t106, t107, t108, t109⟩, A40, H⟩ := H
  replace H : (drachmlaw07_StyleApart.l0 k t101 (wrap64 (1 + t102)) t109 0 t103 t104 t105 t106 t107 t108 t104 t105 t106 t107 t108 4 5 6 9 10) = some r := H
  have A4 := Aside0.mk A40
  clear A40
  have H' := Aside0.mk H
  clear H
  go_enter Tryd.func3, Tryd.ntmps3
  go_wp2_with (first | ((with_reducible refine gate_callee (f := 7) rfl ?_); refine goesL_ (some 11) rfl rfl Tryd.func7 (by kernel_rfl) rfl #[] rfl (by (try simp only [List.map_toArray, List.map_cons, List.map_nil]); first | done | rfl | (simp only [List.length_drop, List.length_take]; rfl)) ?_; (with_reducible refine (drachmlaw07_awake.calls k  t101 _ (Glob.use hG (by decide) (by repeat (first | (with_reducible first | exact HB.out | apply below_alloc | apply pw_below_drewN | apply below_drew1) | exact HB.out))) A2.out).mono ?_); rintro e w5 ⟨rfl, hb⟩; refine ⟨_, rfl, ?_⟩; have n0_ := Aside0.mk (below_step (by repeat (first | (with_reducible first | exact HB.out | apply below_alloc | apply pw_below_drewN | apply below_drew1) | exact HB.out)) hb); clear HB; have HB := n0_; clear n0_; (try clear hb); (try clear hb2); (try clear hk); (try clear hi)) | ((with_reducible refine gate_callee (f := 8) rfl ?_); refine goesL_ (some 13) rfl rfl Tryd.func8 (by kernel_rfl) rfl #[.int .i64 a0, .int .i64 5] rfl (by (try simp only [List.map_toArray, List.map_cons, List.map_nil]); first | done | rfl | (simp only [List.length_drop, List.length_take]; rfl)) ?_; (with_reducible refine (drachmlaw07_rest.calls a0 5 t102 _ A3.out).mono ?_); rintro e w' ⟨rfl, ⟨nd, rfl⟩⟩; refine ⟨_, rfl, ?_⟩; (try (rw [drewN_self w5]; generalize hq_ : World.drewN w5 _ = w5; have n0_ : Aside0 (Below w.heap.size w w5) := ⟨by rw [← hq_]; exact (by repeat (first | (with_reducible first | exact HB.out | apply below_alloc | apply pw_below_drewN | apply below_drew1) | exact HB.out))⟩; clear HB hq_; have HB := n0_; clear n0_))) | ((with_reducible refine gate_callee (f := 9) rfl ?_); refine goesL_ (some 17) rfl rfl Tryd.func9 (by kernel_rfl) rfl #[.int .i64 (wrap64 (1 + t102))] rfl (by (try simp only [List.map_toArray, List.map_cons, List.map_nil]); first | done | rfl | (simp only [List.length_drop, List.length_take]; rfl)) ?_; (with_reducible refine (style_Of.calls (wrap64 (1 + t102)) t103 t104 t105 t106 t107 t108 t109 _ (Glob.use hG (by decide) (by repeat (first | (with_reducible first | exact HB.out | apply below_alloc | apply pw_below_drewN | apply below_drew1) | exact HB.out))) A4.out).mono ?_); rintro e w6 ⟨rfl, hb⟩; refine ⟨_, rfl, ?_⟩; have n0_ := Aside0.mk (below_step (by repeat (first | (with_reducible first | exact HB.out | apply below_alloc | apply pw_below_drewN | apply below_drew1) | exact HB.out)) hb); clear HB; have HB := n0_; clear n0_; (try clear hb); (try clear hb2); (try clear hk); (try clear hi)) | ((with_reducible refine gate_dst (N := 5) rfl ?_); refine box_event ?hg (N := 5) ?hd (cs := #[.bool false, .int .u8 0, .int .u8 0, .int .u8 0, .int .u8 0, .int .u8 0]) (t := 25) ?hr ?_; (case hd => rfl); (case hg => rfl); (case hr => first | (go_simp; done) | (go_simp; rfl)); intro gb110 hg w7 hbox hb; have n0_ := Aside0.mk (below_step (by repeat (first | (with_reducible first | exact HB.out | apply below_alloc | apply pw_below_drewN | apply below_drew1) | exact HB.out)) hb); have n1_ := Aside0.mk (hbox); have n2_ := Aside0.mk ((by rw [hg]; exact (below_size (by repeat (first | (with_reducible first | exact HB.out | apply below_alloc | apply pw_below_drewN | apply below_drew1) | exact HB.out))) : w.heap.size ≤ gb110)); have n3_ := Aside0.mk ((by rw [hg]; exact (below_size (by repeat (first | (with_reducible first | exact HB.out | apply below_alloc | apply pw_below_drewN | apply below_drew1) | exact HB.out))) : w.heap.size ≤ gb110)); clear HB; have HB := n0_; have BK110 := n1_; have GW110 := n2_; have GE110 := n3_; clear n0_ n1_ n2_ n3_; clear hb hbox hg; have hcz8_0 : w7.cell? ⟨gb110, 0, none⟩ = some (.bool false) := (blk_cell BK110.out 0).trans rfl; have hcz8_1 : w7.cell? ⟨gb110, 1, none⟩ = some (.int .u8 0) := (blk_cell BK110.out 1).trans rfl; have hcz8_2 : w7.cell? ⟨gb110, 2, none⟩ = some (.int .u8 0) := (blk_cell BK110.out 2).trans rfl; have hcz8_3 : w7.cell? ⟨gb110, 3, none⟩ = some (.int .u8 0) := (blk_cell BK110.out 3).trans rfl; have hcz8_4 : w7.cell? ⟨gb110, 4, none⟩ = some (.int .u8 0) := (blk_cell BK110.out 4).trans rfl; have hcz8_5 : w7.cell? ⟨gb110, 5, none⟩ = some (.int .u8 0) := (blk_cell BK110.out 5).trans rfl; have hfz8_0 := blk_frozen BK110.out 0; have hfz8_1 := blk_frozen BK110.out 1; have hfz8_2 := blk_frozen BK110.out 2; have hfz8_3 := blk_frozen BK110.out 3; have hfz8_4 := blk_frozen BK110.out 4; have hfz8_5 := blk_frozen BK110.out 5) | ((with_reducible refine gate_dst (N := 7) rfl ?_); refine box_event ?hg (N := 7) ?hd (cs := #[.int .u8 0, .int .u8 0, .int .u8 0, .int .u8 0, .int .u8 0]) (t := 28) ?hr ?_; (case hd => rfl); (case hg => rfl); (case hr => first | (go_simp; done) | (go_simp; rfl)); intro gb111 hg w9 hbox hb; have n0_ := Aside0.mk (blk_below (g := gb110) (o := .cells #[.bool t103, .int .u8 t104, .int .u8 t105, .int .u8 t106, .int .u8 t107, .int .u8 t108] 25 (0, 0)) (by (with_reducible repeat (first | refine blk_drewN ?_ _ | refine blk_drew ?_ | refine blk_alloc ?_ _)); refine blk_put (cs := #[.bool t103, .int .u8 t104, .int .u8 t105, .int .u8 t106, .int .u8 t107, .int .u8 0]) ?_ 5 _ rfl; (with_reducible repeat (first | refine blk_drewN ?_ _ | refine blk_drew ?_ | refine blk_alloc ?_ _)); refine blk_put (cs := #[.bool t103, .int .u8 t104, .int .u8 t105, .int .u8 t106, .int .u8 0, .int .u8 0]) ?_ 4 _ rfl; (with_reducible repeat (first | refine blk_drewN ?_ _ | refine blk_drew ?_ | refine blk_alloc ?_ _)); refine blk_put (cs := #[.bool t103, .int .u8 t104, .int .u8 t105, .int .u8 0, .int .u8 0, .int .u8 0]) ?_ 3 _ rfl; (with_reducible repeat (first | refine blk_drewN ?_ _ | refine blk_drew ?_ | refine blk_alloc ?_ _)); refine blk_put (cs := #[.bool t103, .int .u8 t104, .int .u8 0, .int .u8 0, .int .u8 0, .int .u8 0]) ?_ 2 _ rfl; (with_reducible repeat (first | refine blk_drewN ?_ _ | refine blk_drew ?_ | refine blk_alloc ?_ _)); refine blk_put (cs := #[.bool t103, .int .u8 0, .int .u8 0, .int .u8 0, .int .u8 0, .int .u8 0]) ?_ 1 _ rfl; (with_reducible repeat (first | refine blk_drewN ?_ _ | refine blk_drew ?_ | refine blk_alloc ?_ _)); refine blk_put (cs := #[.bool false, .int .u8 0, .int .u8 0, .int .u8 0, .int .u8 0, .int .u8 0]) ?_ 0 _ rfl; (with_reducible repeat (first | refine blk_drewN ?_ _ | refine blk_drew ?_ | refine blk_alloc ?_ _)); exact BK110.out) hb); have n1_ := Aside0.mk (below_step (by repeat (first | (with_reducible first | exact HB.out | apply below_alloc | apply pw_below_drewN | apply below_drew1 | refine below_set ?_ GE110.out) | exact HB.out)) hb); have n2_ := Aside0.mk (hbox); have n3_ := Aside0.mk ((by rw [hg]; exact (below_size (by repeat (first | (with_reducible first | exact HB.out | apply below_alloc | apply pw_below_drewN | apply below_drew1 | refine below_set ?_ GE110.out) | exact HB.out))) : w.heap.size ≤ gb111)); have n4_ := Aside0.mk ((by rw [hg]; exact (below_size (by repeat (first | (with_reducible first | exact HB.out | apply below_alloc | apply pw_below_drewN | apply below_drew1 | refine below_set ?_ GE110.out) | exact HB.out))) : w.heap.size ≤ gb111)); have n5_ := Aside0.mk ((by rw [hg]; exact Nat.ne_of_lt (blk_lt (g := gb110) (o := .cells #[.bool t103, .int .u8 t104, .int .u8 t105, .int .u8 t106, .int .u8 t107, .int .u8 t108] 25 (0, 0)) (by (with_reducible repeat (first | refine blk_drewN ?_ _ | refine blk_drew ?_ | refine blk_alloc ?_ _)); refine blk_put (cs := #[.bool t103, .int .u8 t104, .int .u8 t105, .int .u8 t106, .int .u8 t107, .int .u8 0]) ?_ 5 _ rfl; (with_reducible repeat (first | refine blk_drewN ?_ _ | refine blk_drew ?_ | refine blk_alloc ?_ _)); refine blk_put (cs := #[.bool t103, .int .u8 t104, .int .u8 t105, .int .u8 t106, .int .u8 0, .int .u8 0]) ?_ 4 _ rfl; (with_reducible repeat (first | refine blk_drewN ?_ _ | refine blk_drew ?_ | refine blk_alloc ?_ _)); refine blk_put (cs := #[.bool t103, .int .u8 t104, .int .u8 t105, .int .u8 0, .int .u8 0, .int .u8 0]) ?_ 3 _ rfl; (with_reducible repeat (first | refine blk_drewN ?_ _ | refine blk_drew ?_ | refine blk_alloc ?_ _)); refine blk_put (cs := #[.bool t103, .int .u8 t104, .int .u8 0, .int .u8 0, .int .u8 0, .int .u8 0]) ?_ 2 _ rfl; (with_reducible repeat (first | refine blk_drewN ?_ _ | refine blk_drew ?_ | refine blk_alloc ?_ _)); refine blk_put (cs := #[.bool t103, .int .u8 0, .int .u8 0, .int .u8 0, .int .u8 0, .int .u8 0]) ?_ 1 _ rfl; (with_reducible repeat (first | refine blk_drewN ?_ _ | refine blk_drew ?_ | refine blk_alloc ?_ _)); refine blk_put (cs := #[.bool false, .int .u8 0, .int .u8 0, .int .u8 0, .int .u8 0, .int .u8 0]) ?_ 0 _ rfl; (with_reducible repeat (first | refine blk_drewN ?_ _ | refine blk_drew ?_ | refine blk_alloc ?_ _)); exact BK110.out)) : gb110 ≠ gb111)); have n6_ := Aside0.mk ((by rw [hg]; exact Nat.ne_of_gt (blk_lt (g := gb110) (o := .cells #[.bool t103, .int .u8 t104, .int .u8 t105, .int .u8 t106, .int .u8 t107, .int .u8 t108] 25 (0, 0)) (by (with_reducible repeat (first | refine blk_drewN ?_ _ | refine blk_drew ?_ | refine blk_alloc ?_ _)); refine blk_put (cs := #[.bool t103, .int .u8 t104, .int .u8 t105, .int .u8 t106, .int .u8 t107, .int .u8 0]) ?_ 5 _ rfl; (with_reducible repeat (first | refine blk_drewN ?_ _ | refine blk_drew ?_ | refine blk_alloc ?_ _)); refine blk_put (cs := #[.bool t103, .int .u8 t104, .int .u8 t105, .int .u8 t106, .int .u8 0, .int .u8 0]) ?_ 4 _ rfl; (with_reducible repeat (first | refine blk_drewN ?_ _ | refine blk_drew ?_ | refine blk_alloc ?_ _)); refine blk_put (cs := #[.bool t103, .int .u8 t104, .int .u8 t105, .int .u8 0, .int .u8 0, .int .u8 0]) ?_ 3 _ rfl; (with_reducible repeat (first | refine blk_drewN ?_ _ | refine blk_drew ?_ | refine blk_alloc ?_ _)); refine blk_put (cs := #[.bool t103, .int .u8 t104, .int .u8 0, .int .u8 0, .int .u8 0, .int .u8 0]) ?_ 2 _ rfl; (with_reducible repeat (first | refine blk_drewN ?_ _ | refine blk_drew ?_ | refine blk_alloc ?_ _)); refine blk_put (cs := #[.bool t103, .int .u8 0, .int .u8 0, .int .u8 0, .int .u8 0, .int .u8 0]) ?_ 1 _ rfl; (with_reducible repeat (first | refine blk_drewN ?_ _ | refine blk_drew ?_ | refine blk_alloc ?_ _)); refine blk_put (cs := #[.bool false, .int .u8 0, .int .u8 0, .int .u8 0, .int .u8 0, .int .u8 0]) ?_ 0 _ rfl; (with_reducible repeat (first | refine blk_drewN ?_ _ | refine blk_drew ?_ | refine blk_alloc ?_ _)); exact BK110.out)) : gb111 ≠ gb110)); clear BK110; clear HB; have BK110 := n0_; have HB := n1_; have BK111 := n2_; have GW111 := n3_; have GE111 := n4_; have NB110_111 := n5_; have NB111_110 := n6_; clear n0_ n1_ n2_ n3_ n4_ n5_ n6_; clear hb hbox hg; have hnb10 := NB111_110.out; have hnc10 := NB110_111.out; have hcz11_0 : w9.cell? ⟨gb111, 0, none⟩ = some (.int .u8 0) := (blk_cell BK111.out 0).trans rfl; have hcz11_1 : w9.cell? ⟨gb111, 1, none⟩ = some (.int .u8 0) := (blk_cell BK111.out 1).trans rfl; have hcz11_2 : w9.cell? ⟨gb111, 2, none⟩ = some (.int .u8 0) := (blk_cell BK111.out 2).trans rfl; have hcz11_3 : w9.cell? ⟨gb111, 3, none⟩ = some (.int .u8 0) := (blk_cell BK111.out 3).trans rfl; have hcz11_4 : w9.cell? ⟨gb111, 4, none⟩ = some (.int .u8 0) := (blk_cell BK111.out 4).trans rfl; have hfz11_0 := blk_frozen BK111.out 0; have hfz11_1 := blk_frozen BK111.out 1; have hfz11_2 := blk_frozen BK111.out 2; have hfz11_3 := blk_frozen BK111.out 3; have hfz11_4 := blk_frozen BK111.out 4) | ((with_reducible refine gate_dst (N := 8) rfl ?_); refine box_event ?hg (N := 8) ?hd (cs := #[.int .i64 0, .int .i64 0, .int .i64 0, .int .i64 0, .int .i64 0]) (t := 29) ?hr ?_; (case hd => rfl); (case hg => rfl); (case hr => first | (go_simp; done) | (go_simp; rfl)); intro gb112 hg w12 hbox hb; have n0_ := Aside0.mk (blk_below (g := gb110) (o := .cells #[.bool t103, .int .u8 t104, .int .u8 t105, .int .u8 t106, .int .u8 t107, .int .u8 t108] 25 (0, 0)) (by (with_reducible repeat (first | refine blk_drewN ?_ _ | refine blk_drew ?_ | refine blk_alloc ?_ _)); refine blk_far ?_ NB110_111.out _; (with_reducible repeat (first | refine blk_drewN ?_ _ | refine blk_drew ?_ | refine blk_alloc ?_ _)); refine blk_far ?_ NB110_111.out _; (with_reducible repeat (first | refine blk_drewN ?_ _ | refine blk_drew ?_ | refine blk_alloc ?_ _)); refine blk_far ?_ NB110_111.out _; (with_reducible repeat (first | refine blk_drewN ?_ _ | refine blk_drew ?_ | refine blk_alloc ?_ _)); refine blk_far ?_ NB110_111.out _; (with_reducible repeat (first | refine blk_drewN ?_ _ | refine blk_drew ?_ | refine blk_alloc ?_ _)); refine blk_far ?_ NB110_111.out _; (with_reducible repeat (first | refine blk_drewN ?_ _ | refine blk_drew ?_ | refine blk_alloc ?_ _)); exact BK110.out) hb); have n1_ := Aside0.mk (blk_below (g := gb111) (o := .cells #[.int .u8 t104, .int .u8 t105, .int .u8 t106, .int .u8 t107, .int .u8 t108] 28 (0, 0)) (by (with_reducible repeat (first | refine blk_drewN ?_ _ | refine blk_drew ?_ | refine blk_alloc ?_ _)); refine blk_put (cs := #[.int .u8 t104, .int .u8 t105, .int .u8 t106, .int .u8 t107, .int .u8 0]) ?_ 4 _ rfl; (with_reducible repeat (first | refine blk_drewN ?_ _ | refine blk_drew ?_ | refine blk_alloc ?_ _)); refine blk_put (cs := #[.int .u8 t104, .int .u8 t105, .int .u8 t106, .int .u8 0, .int .u8 0]) ?_ 3 _ rfl; (with_reducible repeat (first | refine blk_drewN ?_ _ | refine blk_drew ?_ | refine blk_alloc ?_ _)); refine blk_put (cs := #[.int .u8 t104, .int .u8 t105, .int .u8 0, .int .u8 0, .int .u8 0]) ?_ 2 _ rfl; (with_reducible repeat (first | refine blk_drewN ?_ _ | refine blk_drew ?_ | refine blk_alloc ?_ _)); refine blk_put (cs := #[.int .u8 t104, .int .u8 0, .int .u8 0, .int .u8 0, .int .u8 0]) ?_ 1 _ rfl; (with_reducible repeat (first | refine blk_drewN ?_ _ | refine blk_drew ?_ | refine blk_alloc ?_ _)); refine blk_put (cs := #[.int .u8 0, .int .u8 0, .int .u8 0, .int .u8 0, .int .u8 0]) ?_ 0 _ rfl; (with_reducible repeat (first | refine blk_drewN ?_ _ | refine blk_drew ?_ | refine blk_alloc ?_ _)); exact BK111.out) hb); have n2_ := Aside0.mk (below_step (by repeat (first | (with_reducible first | exact HB.out | apply below_alloc | apply pw_below_drewN | apply below_drew1 | refine below_set ?_ GE110.out | refine below_set ?_ GE111.out) | exact HB.out)) hb); have n3_ := Aside0.mk (hbox); have n4_ := Aside0.mk ((by rw [hg]; exact (below_size (by repeat (first | (with_reducible first | exact HB.out | apply below_alloc | apply pw_below_drewN | apply below_drew1 | refine below_set ?_ GE110.out | refine below_set ?_ GE111.out) | exact HB.out))) : w.heap.size ≤ gb112)); have n5_ := Aside0.mk ((by rw [hg]; exact (below_size (by repeat (first | (with_reducible first | exact HB.out | apply below_alloc | apply pw_below_drewN | apply below_drew1 | refine below_set ?_ GE110.out | refine below_set ?_ GE111.out) | exact HB.out))) : w.heap.size ≤ gb112)); have n6_ := Aside0.mk ((by rw [hg]; exact Nat.ne_of_lt (blk_lt (g := gb110) (o := .cells #[.bool t103, .int .u8 t104, .int .u8 t105, .int .u8 t106, .int .u8 t107, .int .u8 t108] 25 (0, 0)) (by (with_reducible repeat (first | refine blk_drewN ?_ _ | refine blk_drew ?_ | refine blk_alloc ?_ _)); refine blk_far ?_ NB110_111.out _; (with_reducible repeat (first | refine blk_drewN ?_ _ | refine blk_drew ?_ | refine blk_alloc ?_ _)); refine blk_far ?_ NB110_111.out _; (with_reducible repeat (first | refine blk_drewN ?_ _ | refine blk_drew ?_ | refine blk_alloc ?_ _)); refine blk_far ?_ NB110_111.out _; (with_reducible repeat (first | refine blk_drewN ?_ _ | refine blk_drew ?_ | refine blk_alloc ?_ _)); refine blk_far ?_ NB110_111.out _; (with_reducible repeat (first | refine blk_drewN ?_ _ | refine blk_drew ?_ | refine blk_alloc ?_ _)); refine blk_far ?_ NB110_111.out _; (with_reducible repeat (first | refine blk_drewN ?_ _ | refine blk_drew ?_ | refine blk_alloc ?_ _)); exact BK110.out)) : gb110 ≠ gb112)); have n7_ := Aside0.mk ((by rw [hg]; exact Nat.ne_of_gt (blk_lt (g := gb110) (o := .cells #[.bool t103, .int .u8 t104, .int .u8 t105, .int .u8 t106, .int .u8 t107, .int .u8 t108] 25 (0, 0)) (by (with_reducible repeat (first | refine blk_drewN ?_ _ | refine blk_drew ?_ | refine blk_alloc ?_ _)); refine blk_far ?_ NB110_111.out _; (with_reducible repeat (first | refine blk_drewN ?_ _ | refine blk_drew ?_ | refine blk_alloc ?_ _)); refine blk_far ?_ NB110_111.out _; (with_reducible repeat (first | refine blk_drewN ?_ _ | refine blk_drew ?_ | refine blk_alloc ?_ _)); refine blk_far ?_ NB110_111.out _; (with_reducible repeat (first | refine blk_drewN ?_ _ | refine blk_drew ?_ | refine blk_alloc ?_ _)); refine blk_far ?_ NB110_111.out _; (with_reducible repeat (first | refine blk_drewN ?_ _ | refine blk_drew ?_ | refine blk_alloc ?_ _)); refine blk_far ?_ NB110_111.out _; (with_reducible repeat (first | refine blk_drewN ?_ _ | refine blk_drew ?_ | refine blk_alloc ?_ _)); exact BK110.out)) : gb112 ≠ gb110)); have n8_ := Aside0.mk ((by rw [hg]; exact Nat.ne_of_lt (blk_lt (g := gb111) (o := .cells #[.int .u8 t104, .int .u8 t105, .int .u8 t106, .int .u8 t107, .int .u8 t108] 28 (0, 0)) (by (with_reducible repeat (first | refine blk_drewN ?_ _ | refine blk_drew ?_ | refine blk_alloc ?_ _)); refine blk_put (cs := #[.int .u8 t104, .int .u8 t105, .int .u8 t106, .int .u8 t107, .int .u8 0]) ?_ 4 _ rfl; (with_reducible repeat (first | refine blk_drewN ?_ _ | refine blk_drew ?_ | refine blk_alloc ?_ _)); refine blk_put (cs := #[.int .u8 t104, .int .u8 t105, .int .u8 t106, .int .u8 0, .int .u8 0]) ?_ 3 _ rfl; (with_reducible repeat (first | refine blk_drewN ?_ _ | refine blk_drew ?_ | refine blk_alloc ?_ _)); refine blk_put (cs := #[.int .u8 t104, .int .u8 t105, .int .u8 0, .int .u8 0, .int .u8 0]) ?_ 2 _ rfl; (with_reducible repeat (first | refine blk_drewN ?_ _ | refine blk_drew ?_ | refine blk_alloc ?_ _)); refine blk_put (cs := #[.int .u8 t104, .int .u8 0, .int .u8 0, .int .u8 0, .int .u8 0]) ?_ 1 _ rfl; (with_reducible repeat (first | refine blk_drewN ?_ _ | refine blk_drew ?_ | refine blk_alloc ?_ _)); refine blk_put (cs := #[.int .u8 0, .int .u8 0, .int .u8 0, .int .u8 0, .int .u8 0]) ?_ 0 _ rfl; (with_reducible repeat (first | refine blk_drewN ?_ _ | refine blk_drew ?_ | refine blk_alloc ?_ _)); exact BK111.out)) : gb111 ≠ gb112)); have n9_ := Aside0.mk ((by rw [hg]; exact Nat.ne_of_gt (blk_lt (g := gb111) (o := .cells #[.int .u8 t104, .int .u8 t105, .int .u8 t106, .int .u8 t107, .int .u8 t108] 28 (0, 0)) (by (with_reducible repeat (first | refine blk_drewN ?_ _ | refine blk_drew ?_ | refine blk_alloc ?_ _)); refine blk_put (cs := #[.int .u8 t104, .int .u8 t105, .int .u8 t106, .int .u8 t107, .int .u8 0]) ?_ 4 _ rfl; (with_reducible repeat (first | refine blk_drewN ?_ _ | refine blk_drew ?_ | refine blk_alloc ?_ _)); refine blk_put (cs := #[.int .u8 t104, .int .u8 t105, .int .u8 t106, .int .u8 0, .int .u8 0]) ?_ 3 _ rfl; (with_reducible repeat (first | refine blk_drewN ?_ _ | refine blk_drew ?_ | refine blk_alloc ?_ _)); refine blk_put (cs := #[.int .u8 t104, .int .u8 t105, .int .u8 0, .int .u8 0, .int .u8 0]) ?_ 2 _ rfl; (with_reducible repeat (first | refine blk_drewN ?_ _ | refine blk_drew ?_ | refine blk_alloc ?_ _)); refine blk_put (cs := #[.int .u8 t104, .int .u8 0, .int .u8 0, .int .u8 0, .int .u8 0]) ?_ 1 _ rfl; (with_reducible repeat (first | refine blk_drewN ?_ _ | refine blk_drew ?_ | refine blk_alloc ?_ _)); refine blk_put (cs := #[.int .u8 0, .int .u8 0, .int .u8 0, .int .u8 0, .int .u8 0]) ?_ 0 _ rfl; (with_reducible repeat (first | refine blk_drewN ?_ _ | refine blk_drew ?_ | refine blk_alloc ?_ _)); exact BK111.out)) : gb112 ≠ gb111)); clear BK110; clear BK111; clear HB; have BK110 := n0_; have BK111 := n1_; have HB := n2_; have BK112 := n3_; have GW112 := n4_; have GE112 := n5_; have NB110_112 := n6_; have NB112_110 := n7_; have NB111_112 := n8_; have NB112_111 := n9_; clear n0_ n1_ n2_ n3_ n4_ n5_ n6_ n7_ n8_ n9_; clear hb hbox hg; have hnb13 := NB112_110.out; have hnc13 := NB110_112.out; have hnb14 := NB112_111.out; have hnc14 := NB111_112.out; have hcz15_0 : w12.cell? ⟨gb112, 0, none⟩ = some (.int .i64 0) := (blk_cell BK112.out 0).trans rfl; have hcz15_1 : w12.cell? ⟨gb112, 1, none⟩ = some (.int .i64 0) := (blk_cell BK112.out 1).trans rfl; have hcz15_2 : w12.cell? ⟨gb112, 2, none⟩ = some (.int .i64 0) := (blk_cell BK112.out 2).trans rfl; have hcz15_3 : w12.cell? ⟨gb112, 3, none⟩ = some (.int .i64 0) := (blk_cell BK112.out 3).trans rfl; have hcz15_4 : w12.cell? ⟨gb112, 4, none⟩ = some (.int .i64 0) := (blk_cell BK112.out 4).trans rfl; have hfz15_0 := blk_frozen BK112.out 0; have hfz15_1 := blk_frozen BK112.out 1; have hfz15_2 := blk_frozen BK112.out 2; have hfz15_3 := blk_frozen BK112.out 3; have hfz15_4 := blk_frozen BK112.out 4))
  go_loopg [9] k (fun kq v9 w' => ∃ (x9_1 : Int), v9 = .int .i64 x9_1 ∧ Aside0 (drachmlaw07_StyleApart.l0 kq t101 (wrap64 (1 + t102)) t109 x9_1 t103 t104 t105 t106 t107 t108 t104 t105 t106 t107 t108 4 5 6 9 10 = some r) ∧ Aside0 (kq ≤ k) ∧ Aside0 (w'.heap[gb110]? = some (.cells #[.bool t103, .int .u8 t104, .int .u8 t105, .int .u8 t106, .int .u8 t107, .int .u8 t108] 25 (0, 0))) ∧ Aside0 (w'.heap[gb111]? = some (.cells #[.int .u8 t104, .int .u8 t105, .int .u8 t106, .int .u8 t107, .int .u8 t108] 28 (0, 0))) ∧ Aside0 (w'.heap[gb112]? = some (.cells #[.int .i64 4, .int .i64 5, .int .i64 6, .int .i64 9, .int .i64 10] 29 (0, 0))) ∧ Aside0 (Below w.heap.size w w'))
  case atStart => exact ⟨(0), (by first | rfl | (simp; done) | (simp [*]; done)), H', ⟨Nat.le_refl _⟩, ⟨by (with_reducible repeat (first | refine blk_drewN ?_ _ | refine blk_drew ?_ | refine blk_alloc ?_ _)); refine blk_far ?_ NB110_112.out _; (with_reducible repeat (first | refine blk_drewN ?_ _ | refine blk_drew ?_ | refine blk_alloc ?_ _)); refine blk_far ?_ NB110_112.out _; (with_reducible repeat (first | refine blk_drewN ?_ _ | refine blk_drew ?_ | refine blk_alloc ?_ _)); refine blk_far ?_ NB110_112.out _; (with_reducible repeat (first | refine blk_drewN ?_ _ | refine blk_drew ?_ | refine blk_alloc ?_ _)); refine blk_far ?_ NB110_112.out _; (with_reducible repeat (first | refine blk_drewN ?_ _ | refine blk_drew ?_ | refine blk_alloc ?_ _)); refine blk_far ?_ NB110_112.out _; (with_reducible repeat (first | refine blk_drewN ?_ _ | refine blk_drew ?_ | refine blk_alloc ?_ _)); exact BK110.out⟩, ⟨by (with_reducible repeat (first | refine blk_drewN ?_ _ | refine blk_drew ?_ | refine blk_alloc ?_ _)); refine blk_far ?_ NB111_112.out _; (with_reducible repeat (first | refine blk_drewN ?_ _ | refine blk_drew ?_ | refine blk_alloc ?_ _)); refine blk_far ?_ NB111_112.out _; (with_reducible repeat (first | refine blk_drewN ?_ _ | refine blk_drew ?_ | refine blk_alloc ?_ _)); refine blk_far ?_ NB111_112.out _; (with_reducible repeat (first | refine blk_drewN ?_ _ | refine blk_drew ?_ | refine blk_alloc ?_ _)); refine blk_far ?_ NB111_112.out _; (with_reducible repeat (first | refine blk_drewN ?_ _ | refine blk_drew ?_ | refine blk_alloc ?_ _)); refine blk_far ?_ NB111_112.out _; (with_reducible repeat (first | refine blk_drewN ?_ _ | refine blk_drew ?_ | refine blk_alloc ?_ _)); exact BK111.out⟩, ⟨by (with_reducible repeat (first | refine blk_drewN ?_ _ | refine blk_drew ?_ | refine blk_alloc ?_ _)); refine blk_put (cs := #[.int .i64 4, .int .i64 5, .int .i64 6, .int .i64 9, .int .i64 0]) ?_ 4 _ rfl; (with_reducible repeat (first | refine blk_drewN ?_ _ | refine blk_drew ?_ | refine blk_alloc ?_ _)); refine blk_put (cs := #[.int .i64 4, .int .i64 5, .int .i64 6, .int .i64 0, .int .i64 0]) ?_ 3 _ rfl; (with_reducible repeat (first | refine blk_drewN ?_ _ | refine blk_drew ?_ | refine blk_alloc ?_ _)); refine blk_put (cs := #[.int .i64 4, .int .i64 5, .int .i64 0, .int .i64 0, .int .i64 0]) ?_ 2 _ rfl; (with_reducible repeat (first | refine blk_drewN ?_ _ | refine blk_drew ?_ | refine blk_alloc ?_ _)); refine blk_put (cs := #[.int .i64 4, .int .i64 0, .int .i64 0, .int .i64 0, .int .i64 0]) ?_ 1 _ rfl; (with_reducible repeat (first | refine blk_drewN ?_ _ | refine blk_drew ?_ | refine blk_alloc ?_ _)); refine blk_put (cs := #[.int .i64 0, .int .i64 0, .int .i64 0, .int .i64 0, .int .i64 0]) ?_ 0 _ rfl; (with_reducible repeat (first | refine blk_drewN ?_ _ | refine blk_drew ?_ | refine blk_alloc ?_ _)); exact BK112.out⟩, ⟨by repeat (first | (with_reducible first | exact HB.out | apply below_alloc | apply pw_below_drewN | apply below_drew1 | refine below_set ?_ GE110.out | refine below_set ?_ GE111.out | refine below_set ?_ GE112.out) | exact HB.out)⟩⟩
  case round =>
    clear H'
    try clear c1
    try clear p2
    try clear c3
    try clear p6
    try clear c7
    try clear c8
    try clear c9
    try clear c10
    try clear c13
    try clear c14
    try clear hcz11_0
    try clear hcz11_1
    try clear hcz11_2
    try clear hcz11_3
    try clear hcz11_4
    try clear hcz15_0
    try clear hcz15_1
    try clear hcz15_2
    try clear hcz15_3
    try clear hcz15_4
    try clear hcz8_0
    try clear hcz8_1
    try clear hcz8_2
    try clear hcz8_3
    try clear hcz8_4
    try clear hcz8_5
    try clear hfz11_0
    try clear hfz11_1
    try clear hfz11_2
    try clear hfz11_3
    try clear hfz11_4
    try clear hfz15_0
    try clear hfz15_1
    try clear hfz15_2
    try clear hfz15_3
    try clear hfz15_4
    try clear hfz8_0
    try clear hfz8_1
    try clear hfz8_2
    try clear hfz8_3
    try clear hfz8_4
    try clear hfz8_5
    obtain ⟨x9_1, rfl, HA, HK1, BK110, BK111, BK112, HB⟩ := hrel
    cases gk with
    | zero => exact absurd HA.out (by simp [drachmlaw07_StyleApart.l0])
    | succ k1 =>
      have H := HA.out
      clear HA
      simp only [drachmlaw07_StyleApart.l0] at H
      by_cases c16 : x9_1 < 5
      · rw [if_pos c16] at H
        have c16b0 : decide (x9_1 < 5) = true := decide_eq_true c16
        clear c16
        by_cases c17 : 0 ≤ x9_1
        · rw [if_pos c17] at H
          have c17b0 := eq_true c17
          have c17b1 : decide (0 ≤ x9_1) = true := decide_eq_true c17
          clear c17
          have c18b0 := eq_true (of_decide_eq_true (by first | (with_reducible assumption) | assumption) : x9_1 < 5)
          by_cases c19 : (rd [t104, t105, t106, t107, t108] x9_1) = 0
          · rw [if_pos c19] at H
            have c19b0 : ((rd [t104, t105, t106, t107, t108] x9_1) == 0) = true := beq_iff_eq.mpr c19
            have c19b1 : ((rd [t104, t105, t106, t107, t108] x9_1) != 0) = false := bne_eq_false_iff_eq.mpr c19
            clear c19
            by_cases c20 : x9_1 < 2
            · rw [if_pos c20] at H
              have c20b0 : decide (x9_1 < 2) = true := decide_eq_true c20
              clear c20
              obtain rfl := Option.some.inj H
              have hnb21 := NB111_110.out
              have hnc21 := NB110_111.out
              have hnb22 := NB111_112.out
              have hnc22 := NB112_111.out
              have hcz23_0 : wr.cell? ⟨gb111, 0, none⟩ = some (.int .u8 t104) := (blk_cell BK111.out 0).trans rfl
              have hcz23_1 : wr.cell? ⟨gb111, 1, none⟩ = some (.int .u8 t105) := (blk_cell BK111.out 1).trans rfl
              have hcz23_2 : wr.cell? ⟨gb111, 2, none⟩ = some (.int .u8 t106) := (blk_cell BK111.out 2).trans rfl
              have hcz23_3 : wr.cell? ⟨gb111, 3, none⟩ = some (.int .u8 t107) := (blk_cell BK111.out 3).trans rfl
              have hcz23_4 : wr.cell? ⟨gb111, 4, none⟩ = some (.int .u8 t108) := (blk_cell BK111.out 4).trans rfl
              have hfz23_0 := blk_frozen BK111.out 0
              have hfz23_1 := blk_frozen BK111.out 1
              have hfz23_2 := blk_frozen BK111.out 2
              have hfz23_3 := blk_frozen BK111.out 3
              have hfz23_4 := blk_frozen BK111.out 4
              have hax24 := arr_cell (w := wr) (g := gb111) (e := fun n_ => Value.int .u8 n_) 0 1 [t104, t105, t106, t107, t108] x9_1 (fun i_ hi_ => by match i_, hi_ with | 0, _ => exact hcz23_0 | 1, _ => exact hcz23_1 | 2, _ => exact hcz23_2 | 3, _ => exact hcz23_3 | 4, _ => exact hcz23_4) (by first | omega | exact of_eq_true (by assumption)) (by simp only [List.length_cons, List.length_nil]; first | omega | (have h_ : (x9_1 : Int) < 5 := of_eq_true (by assumption); omega))
              (try simp only [Nat.zero_add, Nat.mul_one] at hax24)
              go_wp2
              go_ret
              exact ⟨by first | rfl | (simp [errW_none, errW_some] <;> rfl) | (simp [*, errW_none, errW_some] <;> rfl), by repeat (first | (with_reducible first | exact HB.out | apply below_alloc | apply pw_below_drewN | apply below_drew1 | refine below_set ?_ GE110.out | refine below_set ?_ GE111.out | refine below_set ?_ GE112.out) | exact HB.out)⟩
            · rw [if_neg c20] at H
              have c20b0 : decide (x9_1 < 2) = false := decide_eq_false c20
              clear c20
              have H' := Aside0.mk H
              clear H
              have hnb25 := NB111_110.out
              have hnc25 := NB110_111.out
              have hnb26 := NB111_112.out
              have hnc26 := NB112_111.out
              have hcz27_0 : wr.cell? ⟨gb111, 0, none⟩ = some (.int .u8 t104) := (blk_cell BK111.out 0).trans rfl
              have hcz27_1 : wr.cell? ⟨gb111, 1, none⟩ = some (.int .u8 t105) := (blk_cell BK111.out 1).trans rfl
              have hcz27_2 : wr.cell? ⟨gb111, 2, none⟩ = some (.int .u8 t106) := (blk_cell BK111.out 2).trans rfl
              have hcz27_3 : wr.cell? ⟨gb111, 3, none⟩ = some (.int .u8 t107) := (blk_cell BK111.out 3).trans rfl
              have hcz27_4 : wr.cell? ⟨gb111, 4, none⟩ = some (.int .u8 t108) := (blk_cell BK111.out 4).trans rfl
              have hfz27_0 := blk_frozen BK111.out 0
              have hfz27_1 := blk_frozen BK111.out 1
              have hfz27_2 := blk_frozen BK111.out 2
              have hfz27_3 := blk_frozen BK111.out 3
              have hfz27_4 := blk_frozen BK111.out 4
              have hax28 := arr_cell (w := wr) (g := gb111) (e := fun n_ => Value.int .u8 n_) 0 1 [t104, t105, t106, t107, t108] x9_1 (fun i_ hi_ => by match i_, hi_ with | 0, _ => exact hcz27_0 | 1, _ => exact hcz27_1 | 2, _ => exact hcz27_2 | 3, _ => exact hcz27_3 | 4, _ => exact hcz27_4) (by first | omega | exact of_eq_true (by assumption)) (by simp only [List.length_cons, List.length_nil]; first | omega | (have h_ : (x9_1 : Int) < 5 := of_eq_true (by assumption); omega))
              (try simp only [Nat.zero_add, Nat.mul_one] at hax28)
              go_wp2
              go_roundg k1
              case measure => have := HK1.out; omega
              case rel => exact ⟨(wrap64 (x9_1 + 1)), (by first | rfl | (simp; done) | (simp [*]; done)), H', ⟨by have := HK1.out; omega⟩, ⟨by (with_reducible repeat (first | refine blk_drewN ?_ _ | refine blk_drew ?_ | refine blk_alloc ?_ _)); exact BK110.out⟩, ⟨by (with_reducible repeat (first | refine blk_drewN ?_ _ | refine blk_drew ?_ | refine blk_alloc ?_ _)); exact BK111.out⟩, ⟨by (with_reducible repeat (first | refine blk_drewN ?_ _ | refine blk_drew ?_ | refine blk_alloc ?_ _)); exact BK112.out⟩, ⟨by repeat (first | (with_reducible first | exact HB.out | apply below_alloc | apply pw_below_drewN | apply below_drew1 | refine below_set ?_ GE110.out | refine below_set ?_ GE111.out | refine below_set ?_ GE112.out) | exact HB.out)⟩⟩
          · rw [if_neg c19] at H
            have c19b0 : ((rd [t104, t105, t106, t107, t108] x9_1) == 0) = false := beq_eq_false_iff_ne.mpr c19
            have c19b1 : ((rd [t104, t105, t106, t107, t108] x9_1) != 0) = true := bne_iff_ne.mpr c19
            have c29b0 := eq_true (of_decide_eq_true (by first | (with_reducible assumption) | assumption) : 0 ≤ x9_1)
            have c30b0 := eq_true (of_decide_eq_true (by first | (with_reducible assumption) | assumption) : x9_1 < 5)
            replace H := Option.bind_eq_some_iff.mp H
            obtain ⟨t113, A310, H⟩ := H
            replace H : (if t113 = (rd [4, 5, 6, 9, 10] x9_1) then (drachmlaw07_StyleApart.l1 k1 t101 (wrap64 (1 + t102)) t109 x9_1 0 t103 t104 t105 t106 t107 t108 t104 t105 t106 t107 t108 4 5 6 9 10) else (some false)) = some r := H
            have A31 := Aside0.mk A310
            clear A310
            have c32b0 := eq_true (of_decide_eq_true (by first | (with_reducible assumption) | assumption) : 0 ≤ x9_1)
            have c33b0 := eq_true (of_decide_eq_true (by first | (with_reducible assumption) | assumption) : x9_1 < 5)
            by_cases c34 : t113 = (rd [4, 5, 6, 9, 10] x9_1)
            · rw [if_pos c34] at H
              have c34b0 : (t113 == (rd [4, 5, 6, 9, 10] x9_1)) = true := beq_iff_eq.mpr c34
              have c34b1 : (t113 != (rd [4, 5, 6, 9, 10] x9_1)) = false := bne_eq_false_iff_eq.mpr c34
              clear c34
              have H' := Aside0.mk H
              clear H
              have hnb35 := NB111_110.out
              have hnc35 := NB110_111.out
              have hnb36 := NB111_112.out
              have hnc36 := NB112_111.out
              have hcz37_0 : wr.cell? ⟨gb111, 0, none⟩ = some (.int .u8 t104) := (blk_cell BK111.out 0).trans rfl
              have hcz37_1 : wr.cell? ⟨gb111, 1, none⟩ = some (.int .u8 t105) := (blk_cell BK111.out 1).trans rfl
              have hcz37_2 : wr.cell? ⟨gb111, 2, none⟩ = some (.int .u8 t106) := (blk_cell BK111.out 2).trans rfl
              have hcz37_3 : wr.cell? ⟨gb111, 3, none⟩ = some (.int .u8 t107) := (blk_cell BK111.out 3).trans rfl
              have hcz37_4 : wr.cell? ⟨gb111, 4, none⟩ = some (.int .u8 t108) := (blk_cell BK111.out 4).trans rfl
              have hfz37_0 := blk_frozen BK111.out 0
              have hfz37_1 := blk_frozen BK111.out 1
              have hfz37_2 := blk_frozen BK111.out 2
              have hfz37_3 := blk_frozen BK111.out 3
              have hfz37_4 := blk_frozen BK111.out 4
              have hax38 := arr_cell (w := wr) (g := gb111) (e := fun n_ => Value.int .u8 n_) 0 1 [t104, t105, t106, t107, t108] x9_1 (fun i_ hi_ => by match i_, hi_ with | 0, _ => exact hcz37_0 | 1, _ => exact hcz37_1 | 2, _ => exact hcz37_2 | 3, _ => exact hcz37_3 | 4, _ => exact hcz37_4) (by first | omega | exact of_eq_true (by assumption)) (by simp only [List.length_cons, List.length_nil]; first | omega | (have h_ : (x9_1 : Int) < 5 := of_eq_true (by assumption); omega))
              (try simp only [Nat.zero_add, Nat.mul_one] at hax38)
              try go_wp2
              (try (rw [drewN_self wr]; generalize hq_ : World.drewN wr _ = wr; have n0_ : Aside0 (wr.heap[gb110]? = some (.cells #[.bool t103, .int .u8 t104, .int .u8 t105, .int .u8 t106, .int .u8 t107, .int .u8 t108] 25 (0, 0))) := ⟨by rw [← hq_]; exact (by (with_reducible repeat (first | refine blk_drewN ?_ _ | refine blk_drew ?_ | refine blk_alloc ?_ _)); exact BK110.out)⟩; have n1_ : Aside0 (wr.heap[gb111]? = some (.cells #[.int .u8 t104, .int .u8 t105, .int .u8 t106, .int .u8 t107, .int .u8 t108] 28 (0, 0))) := ⟨by rw [← hq_]; exact (by (with_reducible repeat (first | refine blk_drewN ?_ _ | refine blk_drew ?_ | refine blk_alloc ?_ _)); exact BK111.out)⟩; have n2_ : Aside0 (wr.heap[gb112]? = some (.cells #[.int .i64 4, .int .i64 5, .int .i64 6, .int .i64 9, .int .i64 10] 29 (0, 0))) := ⟨by rw [← hq_]; exact (by (with_reducible repeat (first | refine blk_drewN ?_ _ | refine blk_drew ?_ | refine blk_alloc ?_ _)); exact BK112.out)⟩; have n3_ : Aside0 (Below w.heap.size w wr) := ⟨by rw [← hq_]; exact (by repeat (first | (with_reducible first | exact HB.out | apply below_alloc | apply pw_below_drewN | apply below_drew1 | refine below_set ?_ GE110.out | refine below_set ?_ GE111.out | refine below_set ?_ GE112.out) | exact HB.out))⟩; clear BK110 BK111 BK112 HB hq_; have BK110 := n0_; have BK111 := n1_; have BK112 := n2_; have HB := n3_; clear n0_ n1_ n2_ n3_))
              have n0_ := Aside0.mk (blk_drew BK110.out)
              have n1_ := Aside0.mk (blk_drew BK111.out)
              have n2_ := Aside0.mk (blk_drew BK112.out)
              have n3_ := Aside0.mk (below_drew1 HB.out)
              clear BK110
              clear BK111
              clear BK112
              clear HB
              have BK110 := n0_
              have BK111 := n1_
              have BK112 := n2_
              have HB := n3_
              clear n0_ n1_ n2_ n3_
              refine start_ (n := 9) (S := fun w' => w'.cell? ⟨gb111, 0, none⟩ = some (.int .u8 t104) ∧ w'.cell? ⟨gb111, 1, none⟩ = some (.int .u8 t105) ∧ w'.cell? ⟨gb111, 2, none⟩ = some (.int .u8 t106) ∧ w'.cell? ⟨gb111, 3, none⟩ = some (.int .u8 t107) ∧ w'.cell? ⟨gb111, 4, none⟩ = some (.int .u8 t108) ∧ w'.cell? ⟨gb112, 0, none⟩ = some (.int .i64 4) ∧ w'.cell? ⟨gb112, 1, none⟩ = some (.int .i64 5) ∧ w'.cell? ⟨gb112, 2, none⟩ = some (.int .i64 6) ∧ w'.cell? ⟨gb112, 3, none⟩ = some (.int .i64 9) ∧ w'.cell? ⟨gb112, 4, none⟩ = some (.int .i64 10) ∧ w'.cell? ⟨gb111, x9_1.toNat, none⟩ = some (.int .u8 (rd [t104, t105, t106, t107, t108] x9_1)) ∧ w'.cell? ⟨gb112, x9_1.toNat, none⟩ = some (.int .i64 (rd [4, 5, 6, 9, 10] x9_1))) (ds := []) #[false, false, false, false, false, false, false, false, false] (by kernel_rfl) rfl rfl ⟨(blk_cell BK111.out 0).trans rfl, (blk_cell BK111.out 1).trans rfl, (blk_cell BK111.out 2).trans rfl, (blk_cell BK111.out 3).trans rfl, (blk_cell BK111.out 4).trans rfl, (blk_cell BK112.out 0).trans rfl, (blk_cell BK112.out 1).trans rfl, (blk_cell BK112.out 2).trans rfl, (blk_cell BK112.out 3).trans rfl, (blk_cell BK112.out 4).trans rfl, (arr_cell1 (e := fun n_ => Value.int .u8 n_) [t104, t105, t106, t107, t108] x9_1 (fun i_ hi_ => by match i_, hi_ with | 0, _ => exact (blk_cell BK111.out 0).trans rfl | 1, _ => exact (blk_cell BK111.out 1).trans rfl | 2, _ => exact (blk_cell BK111.out 2).trans rfl | 3, _ => exact (blk_cell BK111.out 3).trans rfl | 4, _ => exact (blk_cell BK111.out 4).trans rfl) (by first | omega | exact of_eq_true (by assumption)) (by simp only [List.length_cons, List.length_nil]; first | omega | (have h_ : (x9_1 : Int) < 5 := of_eq_true (by assumption); omega))), (arr_cell1 (e := fun n_ => Value.int .i64 n_) [4, 5, 6, 9, 10] x9_1 (fun i_ hi_ => by match i_, hi_ with | 0, _ => exact (blk_cell BK112.out 0).trans rfl | 1, _ => exact (blk_cell BK112.out 1).trans rfl | 2, _ => exact (blk_cell BK112.out 2).trans rfl | 3, _ => exact (blk_cell BK112.out 3).trans rfl | 4, _ => exact (blk_cell BK112.out 4).trans rfl) (by first | omega | exact of_eq_true (by assumption)) (by simp only [List.length_cons, List.length_nil]; first | omega | (have h_ : (x9_1 : Int) < 5 := of_eq_true (by assumption); omega)))⟩ (fun hHeld => ?_); refine with_tabW drachmlaw07_StyleApart.tab12 drachmlaw07_StyleApart.bits12 (fun HT_ HW_ => ?_)
              generalize wr.drew = w39 at BK110 BK111 BK112 HB hHeld ⊢
              refine pure_ (i := 0) (N := some 42) (v := ?_) (a' := ?_) #[true, false, false, false, false, false, false, false, false] rfl rfl (any_of HT_.out (by kernel_rfl)) (fun _ _ _ h => h) (Or.inl ⟨by rfl, ?_⟩) ?_ ?_
              rotate_left
              · intro w'
                go_simp
                with_reducible rfl
              rotate_left
              · simp only [Act.put, List.setIfInBounds_toArray, List.set_cons_zero, List.set_cons_succ, i64_w, i32_w]
                rfl
              refine pure_ (i := 1) (N := some 43) (v := ?_) (a' := ?_) #[true, true, false, false, false, false, false, false, false] rfl rfl (any_of HT_.out (by kernel_rfl)) (fun _ _ _ h => h) (Or.inl ⟨by rfl, ?_⟩) ?_ ?_
              rotate_left
              · intro w'
                go_simp
                with_reducible rfl
              rotate_left
              · simp only [Act.put, List.setIfInBounds_toArray, List.set_cons_zero, List.set_cons_succ, i64_w, i32_w]
                rfl
              refine pure_ (i := 2) (N := some 44) (v := ?_) (a' := ?_) #[true, true, true, false, false, false, false, false, false] rfl rfl (any_of HT_.out (by kernel_rfl)) (fun _ _ _ h => h) (Or.inl ⟨by rfl, ?_⟩) ?_ ?_
              rotate_left
              · intro w'
                go_simp
                with_reducible rfl
              rotate_left
              · simp only [Act.put, List.setIfInBounds_toArray, List.set_cons_zero, List.set_cons_succ, i64_w, i32_w]
                rfl
              refine pure_ (i := 5) (N := some 47) (v := ?_) (a' := ?_) #[true, true, true, false, false, true, false, false, false] rfl rfl (any_of HT_.out (by kernel_rfl)) (fun _ _ _ h => h) (Or.inl ⟨by rfl, ?_⟩) ?_ ?_
              rotate_left
              · intro w'
                go_simp
                with_reducible rfl
              rotate_left
              · simp only [Act.put, List.setIfInBounds_toArray, List.set_cons_zero, List.set_cons_succ, i64_w, i32_w]
                rfl
              refine pure_ (i := 6) (N := some 48) (v := ?_) (a' := ?_) #[true, true, true, false, false, true, true, false, false] rfl rfl (any_of HT_.out (by kernel_rfl)) (fun _ _ _ h => h) (Or.inl ⟨by rfl, ?_⟩) ?_ ?_
              rotate_left
              · intro w'
                go_simp
                with_reducible rfl
              rotate_left
              · simp only [Act.put, List.setIfInBounds_toArray, List.set_cons_zero, List.set_cons_succ, i64_w, i32_w]
                rfl
              refine take_ (i := 3) (N := some 45) (v := ?_) (a' := ?_) #[true, true, true, true, false, true, true, false, false] rfl rfl (take_ofW HT_.out HW_.out (by kernel_rfl)) (fun _ _ _ h => h) (Or.inl ⟨by rfl, ?_⟩) hHeld ?_ ?_
              rotate_left
              · rintro w' ⟨s0, s1, s2, s3, s4, s5, s6, s7, s8, s9, s10, s11⟩
                go_simp
                with_reducible rfl
              rotate_left
              · simp only [Act.put, List.setIfInBounds_toArray, List.set_cons_zero, List.set_cons_succ, i64_w, i32_w]
                rfl
              refine take_ (i := 7) (N := some 49) (v := ?_) (a' := ?_) #[true, true, true, true, false, true, true, true, false] rfl rfl (take_ofW HT_.out HW_.out (by kernel_rfl)) (fun _ _ _ h => h) (Or.inl ⟨by rfl, ?_⟩) hHeld ?_ ?_
              rotate_left
              · rintro w' ⟨s0, s1, s2, s3, s4, s5, s6, s7, s8, s9, s10, s11⟩
                go_simp
                with_reducible rfl
              rotate_left
              · simp only [Act.put, List.setIfInBounds_toArray, List.set_cons_zero, List.set_cons_succ, i64_w, i32_w]
                rfl
              refine one_ (i := 4) (N := some 46) #[true, true, true, true, true, true, true, true, false] rfl rfl (one_of HT_.out (by kernel_rfl)) (by decide) (fun K hK => ?_)
              refine goes_ Tryd.func10 (by kernel_rfl) rfl #[.int .i64 (wrap64 (1 + t102)), .int .u8 (rd [t104, t105, t106, t107, t108] x9_1)] (by rfl) rfl rfl (by (try simp only [List.map_toArray, List.map_cons, List.map_nil]); first | done | rfl | (simp only [List.length_drop, List.length_take]; rfl)) ?_
              with_reducible refine (style_Kind.calls k1 (wrap64 (1 + t102)) (rd [t104, t105, t106, t107, t108] x9_1) t113 _ (Glob.use hG (by decide) (by repeat (first | (with_reducible first | exact HB.out | exact Below.refl _ _ | apply below_alloc | apply pw_below_drewN | apply below_drew1) | exact HB.out | exact Below.refl _ _))) A31.out).mono ?_
              rintro e w40 ⟨rfl, hb⟩
              refine ⟨_, rfl, ?_⟩
              have n0_ := Aside0.mk (blk_below (g := gb110) (o := .cells #[.bool t103, .int .u8 t104, .int .u8 t105, .int .u8 t106, .int .u8 t107, .int .u8 t108] 25 (0, 0)) (by (with_reducible repeat (first | refine blk_drewN ?_ _ | refine blk_drew ?_ | refine blk_alloc ?_ _)); exact BK110.out) hb)
              have n1_ := Aside0.mk (blk_below (g := gb111) (o := .cells #[.int .u8 t104, .int .u8 t105, .int .u8 t106, .int .u8 t107, .int .u8 t108] 28 (0, 0)) (by (with_reducible repeat (first | refine blk_drewN ?_ _ | refine blk_drew ?_ | refine blk_alloc ?_ _)); exact BK111.out) hb)
              have n2_ := Aside0.mk (blk_below (g := gb112) (o := .cells #[.int .i64 4, .int .i64 5, .int .i64 6, .int .i64 9, .int .i64 10] 29 (0, 0)) (by (with_reducible repeat (first | refine blk_drewN ?_ _ | refine blk_drew ?_ | refine blk_alloc ?_ _)); exact BK112.out) hb)
              have n3_ := Aside0.mk (below_step (by repeat (first | (with_reducible first | exact HB.out | apply below_alloc | apply pw_below_drewN | apply below_drew1 | refine below_set ?_ GE110.out | refine below_set ?_ GE111.out | refine below_set ?_ GE112.out) | exact HB.out)) hb)
              clear BK110
              clear BK111
              clear BK112
              clear HB
              have BK110 := n0_
              have BK111 := n1_
              have BK112 := n2_
              have HB := n3_
              clear n0_ n1_ n2_ n3_
              (try clear hb)
              (try clear hb2)
              (try clear hk)
              (try clear hi)
              refine hK.out _ _ ⟨(blk_cell BK111.out 0).trans rfl, (blk_cell BK111.out 1).trans rfl, (blk_cell BK111.out 2).trans rfl, (blk_cell BK111.out 3).trans rfl, (blk_cell BK111.out 4).trans rfl, (blk_cell BK112.out 0).trans rfl, (blk_cell BK112.out 1).trans rfl, (blk_cell BK112.out 2).trans rfl, (blk_cell BK112.out 3).trans rfl, (blk_cell BK112.out 4).trans rfl, (arr_cell1 (e := fun n_ => Value.int .u8 n_) [t104, t105, t106, t107, t108] x9_1 (fun i_ hi_ => by match i_, hi_ with | 0, _ => exact (blk_cell BK111.out 0).trans rfl | 1, _ => exact (blk_cell BK111.out 1).trans rfl | 2, _ => exact (blk_cell BK111.out 2).trans rfl | 3, _ => exact (blk_cell BK111.out 3).trans rfl | 4, _ => exact (blk_cell BK111.out 4).trans rfl) (by first | omega | exact of_eq_true (by assumption)) (by simp only [List.length_cons, List.length_nil]; first | omega | (have h_ : (x9_1 : Int) < 5 := of_eq_true (by assumption); omega))), (arr_cell1 (e := fun n_ => Value.int .i64 n_) [4, 5, 6, 9, 10] x9_1 (fun i_ hi_ => by match i_, hi_ with | 0, _ => exact (blk_cell BK112.out 0).trans rfl | 1, _ => exact (blk_cell BK112.out 1).trans rfl | 2, _ => exact (blk_cell BK112.out 2).trans rfl | 3, _ => exact (blk_cell BK112.out 3).trans rfl | 4, _ => exact (blk_cell BK112.out 4).trans rfl) (by first | omega | exact of_eq_true (by assumption)) (by simp only [List.length_cons, List.length_nil]; first | omega | (have h_ : (x9_1 : Int) < 5 := of_eq_true (by assumption); omega)))⟩ (fun hHeld => ?_)
              clear hK K
              refine norm_ (a' := ?_) ?_ ?_
              rotate_left
              · show Act.put _ (some 46) _ = _
                simp only [Act.put, List.setIfInBounds_toArray, List.set_cons_zero, List.set_cons_succ, i64_w, i32_w]
                rfl
              refine pure_ (i := 8) (N := some 50) (v := ?_) (a' := ?_) #[true, true, true, true, true, true, true, true, true] rfl rfl (any_of HT_.out (by kernel_rfl)) (fun _ _ _ h => h) (Or.inl ⟨by rfl, ?_⟩) ?_ ?_
              rotate_left
              · intro w'
                go_simp
                with_reducible rfl
              rotate_left
              · simp only [Act.put, List.setIfInBounds_toArray, List.set_cons_zero, List.set_cons_succ, i64_w, i32_w]
                rfl
              refine done_ (done_of HT_.out (by kernel_rfl)) ?_
              try go_wp2
              go_loopg [10] k1 (fun kq v10 w' => ∃ (x10_2 : Int), v10 = .int .i64 x10_2 ∧ Aside0 (drachmlaw07_StyleApart.l1 kq t101 (wrap64 (1 + t102)) t109 x9_1 x10_2 t103 t104 t105 t106 t107 t108 t104 t105 t106 t107 t108 4 5 6 9 10 = some r) ∧ Aside0 (kq ≤ k1) ∧ Aside0 (w'.heap[gb110]? = some (.cells #[.bool t103, .int .u8 t104, .int .u8 t105, .int .u8 t106, .int .u8 t107, .int .u8 t108] 25 (0, 0))) ∧ Aside0 (w'.heap[gb111]? = some (.cells #[.int .u8 t104, .int .u8 t105, .int .u8 t106, .int .u8 t107, .int .u8 t108] 28 (0, 0))) ∧ Aside0 (w'.heap[gb112]? = some (.cells #[.int .i64 4, .int .i64 5, .int .i64 6, .int .i64 9, .int .i64 10] 29 (0, 0))) ∧ Aside0 (Below w.heap.size w w'))
              case atStart => exact ⟨(0), (by first | rfl | (simp; done) | (simp [*]; done)), H', ⟨Nat.le_refl _⟩, ⟨by (with_reducible repeat (first | refine blk_drewN ?_ _ | refine blk_drew ?_ | refine blk_alloc ?_ _)); exact BK110.out⟩, ⟨by (with_reducible repeat (first | refine blk_drewN ?_ _ | refine blk_drew ?_ | refine blk_alloc ?_ _)); exact BK111.out⟩, ⟨by (with_reducible repeat (first | refine blk_drewN ?_ _ | refine blk_drew ?_ | refine blk_alloc ?_ _)); exact BK112.out⟩, ⟨by repeat (first | (with_reducible first | exact HB.out | apply below_alloc | apply pw_below_drewN | apply below_drew1 | refine below_set ?_ GE110.out | refine below_set ?_ GE111.out | refine below_set ?_ GE112.out) | exact HB.out)⟩⟩
              case round =>
                clear H'
                try clear c1
                try clear c2
                try clear p2
                try clear c3
                try clear p6
                try clear c7
                try clear c8
                try clear c9
                try clear c10
                try clear c13
                try clear c14
                try clear c16
                try clear c16b0
                try clear c17
                try clear c17b0
                try clear c17b1
                try clear c18
                try clear c18b0
                try clear c19
                try clear c19b0
                try clear c19b1
                try clear c20
                try clear c20b0
                try clear c21
                try clear c22
                try clear c25
                try clear c26
                try clear c29
                try clear c29b0
                try clear c30
                try clear c30b0
                try clear c32
                try clear c32b0
                try clear c33
                try clear c33b0
                try clear c34
                try clear c34b0
                try clear c34b1
                try clear c35
                try clear c36
                try clear hcz11_0
                try clear hcz11_1
                try clear hcz11_2
                try clear hcz11_3
                try clear hcz11_4
                try clear hcz15_0
                try clear hcz15_1
                try clear hcz15_2
                try clear hcz15_3
                try clear hcz15_4
                try clear hcz23_0
                try clear hcz23_1
                try clear hcz23_2
                try clear hcz23_3
                try clear hcz23_4
                try clear hcz27_0
                try clear hcz27_1
                try clear hcz27_2
                try clear hcz27_3
                try clear hcz27_4
                try clear hcz37_0
                try clear hcz37_1
                try clear hcz37_2
                try clear hcz37_3
                try clear hcz37_4
                try clear hcz8_0
                try clear hcz8_1
                try clear hcz8_2
                try clear hcz8_3
                try clear hcz8_4
                try clear hcz8_5
                try clear hfz11_0
                try clear hfz11_1
                try clear hfz11_2
                try clear hfz11_3
                try clear hfz11_4
                try clear hfz15_0
                try clear hfz15_1
                try clear hfz15_2
                try clear hfz15_3
                try clear hfz15_4
                try clear hfz23_0
                try clear hfz23_1
                try clear hfz23_2
                try clear hfz23_3
                try clear hfz23_4
                try clear hfz27_0
                try clear hfz27_1
                try clear hfz27_2
                try clear hfz27_3
                try clear hfz27_4
                try clear hfz37_0
                try clear hfz37_1
                try clear hfz37_2
                try clear hfz37_3
                try clear hfz37_4
                try clear hfz8_0
                try clear hfz8_1
                try clear hfz8_2
                try clear hfz8_3
                try clear hfz8_4
                try clear hfz8_5
                try clear p2
                try clear p6
                obtain ⟨x10_2, rfl, HA, HK2, BK110, BK111, BK112, HB⟩ := hrel
                cases gk with
                | zero => exact absurd HA.out (by simp [drachmlaw07_StyleApart.l1])
                | succ k2 =>
                  have H := HA.out
                  clear HA
                  simp only [drachmlaw07_StyleApart.l1] at H
                  by_cases c41 : x10_2 < x9_1
                  · rw [if_pos c41] at H
                    have c41b0 : decide (x10_2 < x9_1) = true := decide_eq_true c41
                    clear c41
                    by_cases c42 : 0 ≤ x9_1
                    · rw [if_pos c42] at H
                      have c42b0 := eq_true c42
                      have c42b1 : decide (0 ≤ x9_1) = true := decide_eq_true c42
                      clear c42
                      by_cases c43 : x9_1 < 5
                      · rw [if_pos c43] at H
                        have c43b0 := eq_true c43
                        have c43b1 : decide (x9_1 < 5) = true := decide_eq_true c43
                        clear c43
                        by_cases c44 : 0 ≤ x10_2
                        · rw [if_pos c44] at H
                          have c44b0 := eq_true c44
                          have c44b1 : decide (0 ≤ x10_2) = true := decide_eq_true c44
                          clear c44
                          by_cases c45 : x10_2 < 5
                          · rw [if_pos c45] at H
                            have c45b0 := eq_true c45
                            have c45b1 : decide (x10_2 < 5) = true := decide_eq_true c45
                            clear c45
                            by_cases c46 : (rd [t104, t105, t106, t107, t108] x9_1) = (rd [t104, t105, t106, t107, t108] x10_2)
                            · rw [if_pos c46] at H
                              have c46b0 : ((rd [t104, t105, t106, t107, t108] x9_1) == (rd [t104, t105, t106, t107, t108] x10_2)) = true := beq_iff_eq.mpr c46
                              have c46b1 : ((rd [t104, t105, t106, t107, t108] x9_1) != (rd [t104, t105, t106, t107, t108] x10_2)) = false := bne_eq_false_iff_eq.mpr c46
                              clear c46
                              obtain rfl := Option.some.inj H
                              try go_wp2
                              (try (rw [drewN_self wr]; generalize hq_ : World.drewN wr _ = wr; have n0_ : Aside0 (wr.heap[gb110]? = some (.cells #[.bool t103, .int .u8 t104, .int .u8 t105, .int .u8 t106, .int .u8 t107, .int .u8 t108] 25 (0, 0))) := ⟨by rw [← hq_]; exact (by (with_reducible repeat (first | refine blk_drewN ?_ _ | refine blk_drew ?_ | refine blk_alloc ?_ _)); exact BK110.out)⟩; have n1_ : Aside0 (wr.heap[gb111]? = some (.cells #[.int .u8 t104, .int .u8 t105, .int .u8 t106, .int .u8 t107, .int .u8 t108] 28 (0, 0))) := ⟨by rw [← hq_]; exact (by (with_reducible repeat (first | refine blk_drewN ?_ _ | refine blk_drew ?_ | refine blk_alloc ?_ _)); exact BK111.out)⟩; have n2_ : Aside0 (wr.heap[gb112]? = some (.cells #[.int .i64 4, .int .i64 5, .int .i64 6, .int .i64 9, .int .i64 10] 29 (0, 0))) := ⟨by rw [← hq_]; exact (by (with_reducible repeat (first | refine blk_drewN ?_ _ | refine blk_drew ?_ | refine blk_alloc ?_ _)); exact BK112.out)⟩; have n3_ : Aside0 (Below w.heap.size w wr) := ⟨by rw [← hq_]; exact (by repeat (first | (with_reducible first | exact HB.out | apply below_alloc | apply pw_below_drewN | apply below_drew1 | refine below_set ?_ GE110.out | refine below_set ?_ GE111.out | refine below_set ?_ GE112.out) | exact HB.out))⟩; clear BK110 BK111 BK112 HB hq_; have BK110 := n0_; have BK111 := n1_; have BK112 := n2_; have HB := n3_; clear n0_ n1_ n2_ n3_))
                              have n0_ := Aside0.mk (blk_drew BK110.out)
                              have n1_ := Aside0.mk (blk_drew BK111.out)
                              have n2_ := Aside0.mk (blk_drew BK112.out)
                              have n3_ := Aside0.mk (below_drew1 HB.out)
                              clear BK110
                              clear BK111
                              clear BK112
                              clear HB
                              have BK110 := n0_
                              have BK111 := n1_
                              have BK112 := n2_
                              have HB := n3_
                              clear n0_ n1_ n2_ n3_
                              refine start_ (n := 7) (S := fun w' => w'.cell? ⟨gb111, 0, none⟩ = some (.int .u8 t104) ∧ w'.cell? ⟨gb111, 1, none⟩ = some (.int .u8 t105) ∧ w'.cell? ⟨gb111, 2, none⟩ = some (.int .u8 t106) ∧ w'.cell? ⟨gb111, 3, none⟩ = some (.int .u8 t107) ∧ w'.cell? ⟨gb111, 4, none⟩ = some (.int .u8 t108) ∧ w'.cell? ⟨gb111, x9_1.toNat, none⟩ = some (.int .u8 (rd [t104, t105, t106, t107, t108] x9_1)) ∧ w'.cell? ⟨gb111, x10_2.toNat, none⟩ = some (.int .u8 (rd [t104, t105, t106, t107, t108] x10_2))) (ds := []) #[false, false, false, false, false, false, false] (by kernel_rfl) rfl rfl ⟨(blk_cell BK111.out 0).trans rfl, (blk_cell BK111.out 1).trans rfl, (blk_cell BK111.out 2).trans rfl, (blk_cell BK111.out 3).trans rfl, (blk_cell BK111.out 4).trans rfl, (arr_cell1 (e := fun n_ => Value.int .u8 n_) [t104, t105, t106, t107, t108] x9_1 (fun i_ hi_ => by match i_, hi_ with | 0, _ => exact (blk_cell BK111.out 0).trans rfl | 1, _ => exact (blk_cell BK111.out 1).trans rfl | 2, _ => exact (blk_cell BK111.out 2).trans rfl | 3, _ => exact (blk_cell BK111.out 3).trans rfl | 4, _ => exact (blk_cell BK111.out 4).trans rfl) (by first | omega | exact of_eq_true (by assumption)) (by simp only [List.length_cons, List.length_nil]; first | omega | (have h_ : (x9_1 : Int) < 5 := of_eq_true (by assumption); omega))), (arr_cell1 (e := fun n_ => Value.int .u8 n_) [t104, t105, t106, t107, t108] x10_2 (fun i_ hi_ => by match i_, hi_ with | 0, _ => exact (blk_cell BK111.out 0).trans rfl | 1, _ => exact (blk_cell BK111.out 1).trans rfl | 2, _ => exact (blk_cell BK111.out 2).trans rfl | 3, _ => exact (blk_cell BK111.out 3).trans rfl | 4, _ => exact (blk_cell BK111.out 4).trans rfl) (by first | omega | exact of_eq_true (by assumption)) (by simp only [List.length_cons, List.length_nil]; first | omega | (have h_ : (x10_2 : Int) < 5 := of_eq_true (by assumption); omega)))⟩ (fun hHeld => ?_)
                              generalize wr.drew = w47 at BK110 BK111 BK112 HB hHeld ⊢
                              refine pure_ (i := 0) (N := some 56) (v := ?_) (a' := ?_) #[true, false, false, false, false, false, false] rfl rfl (by kernel_rfl) (fun _ _ _ h => h) (Or.inl ⟨by rfl, ?_⟩) ?_ ?_
                              rotate_left
                              · intro w'
                                go_simp
                                with_reducible rfl
                              rotate_left
                              · simp only [Act.put, List.setIfInBounds_toArray, List.set_cons_zero, List.set_cons_succ, i64_w, i32_w]
                                rfl
                              refine pure_ (i := 1) (N := some 57) (v := ?_) (a' := ?_) #[true, true, false, false, false, false, false] rfl rfl (by kernel_rfl) (fun _ _ _ h => h) (Or.inl ⟨by rfl, ?_⟩) ?_ ?_
                              rotate_left
                              · intro w'
                                go_simp
                                with_reducible rfl
                              rotate_left
                              · simp only [Act.put, List.setIfInBounds_toArray, List.set_cons_zero, List.set_cons_succ, i64_w, i32_w]
                                rfl
                              refine pure_ (i := 3) (N := some 59) (v := ?_) (a' := ?_) #[true, true, false, true, false, false, false] rfl rfl (by kernel_rfl) (fun _ _ _ h => h) (Or.inl ⟨by rfl, ?_⟩) ?_ ?_
                              rotate_left
                              · intro w'
                                go_simp
                                with_reducible rfl
                              rotate_left
                              · simp only [Act.put, List.setIfInBounds_toArray, List.set_cons_zero, List.set_cons_succ, i64_w, i32_w]
                                rfl
                              refine pure_ (i := 4) (N := some 60) (v := ?_) (a' := ?_) #[true, true, false, true, true, false, false] rfl rfl (by kernel_rfl) (fun _ _ _ h => h) (Or.inl ⟨by rfl, ?_⟩) ?_ ?_
                              rotate_left
                              · intro w'
                                go_simp
                                with_reducible rfl
                              rotate_left
                              · simp only [Act.put, List.setIfInBounds_toArray, List.set_cons_zero, List.set_cons_succ, i64_w, i32_w]
                                rfl
                              refine take_ (i := 2) (N := some 58) (v := ?_) (a' := ?_) #[true, true, true, true, true, false, false] rfl rfl (by kernel_rfl) (fun _ _ _ h => h) (Or.inl ⟨by rfl, ?_⟩) hHeld ?_ ?_
                              rotate_left
                              · rintro w' ⟨s0, s1, s2, s3, s4, s5, s6⟩
                                go_simp
                                with_reducible rfl
                              rotate_left
                              · simp only [Act.put, List.setIfInBounds_toArray, List.set_cons_zero, List.set_cons_succ, i64_w, i32_w]
                                rfl
                              refine take_ (i := 5) (N := some 61) (v := ?_) (a' := ?_) #[true, true, true, true, true, true, false] rfl rfl (by kernel_rfl) (fun _ _ _ h => h) (Or.inl ⟨by rfl, ?_⟩) hHeld ?_ ?_
                              rotate_left
                              · rintro w' ⟨s0, s1, s2, s3, s4, s5, s6⟩
                                go_simp
                                with_reducible rfl
                              rotate_left
                              · simp only [Act.put, List.setIfInBounds_toArray, List.set_cons_zero, List.set_cons_succ, i64_w, i32_w]
                                rfl
                              refine pure_ (i := 6) (N := some 62) (v := ?_) (a' := ?_) #[true, true, true, true, true, true, true] rfl rfl (by kernel_rfl) (fun _ _ _ h => h) (Or.inl ⟨by rfl, ?_⟩) ?_ ?_
                              rotate_left
                              · intro w'
                                go_simp
                                with_reducible rfl
                              rotate_left
                              · simp only [Act.put, List.setIfInBounds_toArray, List.set_cons_zero, List.set_cons_succ, i64_w, i32_w]
                                rfl
                              refine done_ (by kernel_rfl) ?_
                              try go_wp2
                              go_ret
                              exact ⟨by first | rfl | (simp [errW_none, errW_some] <;> rfl) | (simp [*, errW_none, errW_some] <;> rfl), by repeat (first | (with_reducible first | exact HB.out | apply below_alloc | apply pw_below_drewN | apply below_drew1 | refine below_set ?_ GE110.out | refine below_set ?_ GE111.out | refine below_set ?_ GE112.out) | exact HB.out)⟩
                            · rw [if_neg c46] at H
                              have c46b0 : ((rd [t104, t105, t106, t107, t108] x9_1) == (rd [t104, t105, t106, t107, t108] x10_2)) = false := beq_eq_false_iff_ne.mpr c46
                              have c46b1 : ((rd [t104, t105, t106, t107, t108] x9_1) != (rd [t104, t105, t106, t107, t108] x10_2)) = true := bne_iff_ne.mpr c46
                              have H' := Aside0.mk H
                              clear H
                              try go_wp2
                              (try (rw [drewN_self wr]; generalize hq_ : World.drewN wr _ = wr; have n0_ : Aside0 (wr.heap[gb110]? = some (.cells #[.bool t103, .int .u8 t104, .int .u8 t105, .int .u8 t106, .int .u8 t107, .int .u8 t108] 25 (0, 0))) := ⟨by rw [← hq_]; exact (by (with_reducible repeat (first | refine blk_drewN ?_ _ | refine blk_drew ?_ | refine blk_alloc ?_ _)); exact BK110.out)⟩; have n1_ : Aside0 (wr.heap[gb111]? = some (.cells #[.int .u8 t104, .int .u8 t105, .int .u8 t106, .int .u8 t107, .int .u8 t108] 28 (0, 0))) := ⟨by rw [← hq_]; exact (by (with_reducible repeat (first | refine blk_drewN ?_ _ | refine blk_drew ?_ | refine blk_alloc ?_ _)); exact BK111.out)⟩; have n2_ : Aside0 (wr.heap[gb112]? = some (.cells #[.int .i64 4, .int .i64 5, .int .i64 6, .int .i64 9, .int .i64 10] 29 (0, 0))) := ⟨by rw [← hq_]; exact (by (with_reducible repeat (first | refine blk_drewN ?_ _ | refine blk_drew ?_ | refine blk_alloc ?_ _)); exact BK112.out)⟩; have n3_ : Aside0 (Below w.heap.size w wr) := ⟨by rw [← hq_]; exact (by repeat (first | (with_reducible first | exact HB.out | apply below_alloc | apply pw_below_drewN | apply below_drew1 | refine below_set ?_ GE110.out | refine below_set ?_ GE111.out | refine below_set ?_ GE112.out) | exact HB.out))⟩; clear BK110 BK111 BK112 HB hq_; have BK110 := n0_; have BK111 := n1_; have BK112 := n2_; have HB := n3_; clear n0_ n1_ n2_ n3_))
                              have n0_ := Aside0.mk (blk_drew BK110.out)
                              have n1_ := Aside0.mk (blk_drew BK111.out)
                              have n2_ := Aside0.mk (blk_drew BK112.out)
                              have n3_ := Aside0.mk (below_drew1 HB.out)
                              clear BK110
                              clear BK111
                              clear BK112
                              clear HB
                              have BK110 := n0_
                              have BK111 := n1_
                              have BK112 := n2_
                              have HB := n3_
                              clear n0_ n1_ n2_ n3_
                              refine start_ (n := 7) (S := fun w' => w'.cell? ⟨gb111, 0, none⟩ = some (.int .u8 t104) ∧ w'.cell? ⟨gb111, 1, none⟩ = some (.int .u8 t105) ∧ w'.cell? ⟨gb111, 2, none⟩ = some (.int .u8 t106) ∧ w'.cell? ⟨gb111, 3, none⟩ = some (.int .u8 t107) ∧ w'.cell? ⟨gb111, 4, none⟩ = some (.int .u8 t108) ∧ w'.cell? ⟨gb111, x9_1.toNat, none⟩ = some (.int .u8 (rd [t104, t105, t106, t107, t108] x9_1)) ∧ w'.cell? ⟨gb111, x10_2.toNat, none⟩ = some (.int .u8 (rd [t104, t105, t106, t107, t108] x10_2))) (ds := []) #[false, false, false, false, false, false, false] (by kernel_rfl) rfl rfl ⟨(blk_cell BK111.out 0).trans rfl, (blk_cell BK111.out 1).trans rfl, (blk_cell BK111.out 2).trans rfl, (blk_cell BK111.out 3).trans rfl, (blk_cell BK111.out 4).trans rfl, (arr_cell1 (e := fun n_ => Value.int .u8 n_) [t104, t105, t106, t107, t108] x9_1 (fun i_ hi_ => by match i_, hi_ with | 0, _ => exact (blk_cell BK111.out 0).trans rfl | 1, _ => exact (blk_cell BK111.out 1).trans rfl | 2, _ => exact (blk_cell BK111.out 2).trans rfl | 3, _ => exact (blk_cell BK111.out 3).trans rfl | 4, _ => exact (blk_cell BK111.out 4).trans rfl) (by first | omega | exact of_eq_true (by assumption)) (by simp only [List.length_cons, List.length_nil]; first | omega | (have h_ : (x9_1 : Int) < 5 := of_eq_true (by assumption); omega))), (arr_cell1 (e := fun n_ => Value.int .u8 n_) [t104, t105, t106, t107, t108] x10_2 (fun i_ hi_ => by match i_, hi_ with | 0, _ => exact (blk_cell BK111.out 0).trans rfl | 1, _ => exact (blk_cell BK111.out 1).trans rfl | 2, _ => exact (blk_cell BK111.out 2).trans rfl | 3, _ => exact (blk_cell BK111.out 3).trans rfl | 4, _ => exact (blk_cell BK111.out 4).trans rfl) (by first | omega | exact of_eq_true (by assumption)) (by simp only [List.length_cons, List.length_nil]; first | omega | (have h_ : (x10_2 : Int) < 5 := of_eq_true (by assumption); omega)))⟩ (fun hHeld => ?_)
                              generalize wr.drew = w48 at BK110 BK111 BK112 HB hHeld ⊢
                              refine pure_ (i := 0) (N := some 56) (v := ?_) (a' := ?_) #[true, false, false, false, false, false, false] rfl rfl (by kernel_rfl) (fun _ _ _ h => h) (Or.inl ⟨by rfl, ?_⟩) ?_ ?_
                              rotate_left
                              · intro w'
                                go_simp
                                with_reducible rfl
                              rotate_left
                              · simp only [Act.put, List.setIfInBounds_toArray, List.set_cons_zero, List.set_cons_succ, i64_w, i32_w]
                                rfl
                              refine pure_ (i := 1) (N := some 57) (v := ?_) (a' := ?_) #[true, true, false, false, false, false, false] rfl rfl (by kernel_rfl) (fun _ _ _ h => h) (Or.inl ⟨by rfl, ?_⟩) ?_ ?_
                              rotate_left
                              · intro w'
                                go_simp
                                with_reducible rfl
                              rotate_left
                              · simp only [Act.put, List.setIfInBounds_toArray, List.set_cons_zero, List.set_cons_succ, i64_w, i32_w]
                                rfl
                              refine pure_ (i := 3) (N := some 59) (v := ?_) (a' := ?_) #[true, true, false, true, false, false, false] rfl rfl (by kernel_rfl) (fun _ _ _ h => h) (Or.inl ⟨by rfl, ?_⟩) ?_ ?_
                              rotate_left
                              · intro w'
                                go_simp
                                with_reducible rfl
                              rotate_left
                              · simp only [Act.put, List.setIfInBounds_toArray, List.set_cons_zero, List.set_cons_succ, i64_w, i32_w]
                                rfl
                              refine pure_ (i := 4) (N := some 60) (v := ?_) (a' := ?_) #[true, true, false, true, true, false, false] rfl rfl (by kernel_rfl) (fun _ _ _ h => h) (Or.inl ⟨by rfl, ?_⟩) ?_ ?_
                              rotate_left
                              · intro w'
                                go_simp
                                with_reducible rfl
                              rotate_left
                              · simp only [Act.put, List.setIfInBounds_toArray, List.set_cons_zero, List.set_cons_succ, i64_w, i32_w]
                                rfl
                              refine take_ (i := 2) (N := some 58) (v := ?_) (a' := ?_) #[true, true, true, true, true, false, false] rfl rfl (by kernel_rfl) (fun _ _ _ h => h) (Or.inl ⟨by rfl, ?_⟩) hHeld ?_ ?_
                              rotate_left
                              · rintro w' ⟨s0, s1, s2, s3, s4, s5, s6⟩
                                go_simp
                                with_reducible rfl
                              rotate_left
                              · simp only [Act.put, List.setIfInBounds_toArray, List.set_cons_zero, List.set_cons_succ, i64_w, i32_w]
                                rfl
                              refine take_ (i := 5) (N := some 61) (v := ?_) (a' := ?_) #[true, true, true, true, true, true, false] rfl rfl (by kernel_rfl) (fun _ _ _ h => h) (Or.inl ⟨by rfl, ?_⟩) hHeld ?_ ?_
                              rotate_left
                              · rintro w' ⟨s0, s1, s2, s3, s4, s5, s6⟩
                                go_simp
                                with_reducible rfl
                              rotate_left
                              · simp only [Act.put, List.setIfInBounds_toArray, List.set_cons_zero, List.set_cons_succ, i64_w, i32_w]
                                rfl
                              refine pure_ (i := 6) (N := some 62) (v := ?_) (a' := ?_) #[true, true, true, true, true, true, true] rfl rfl (by kernel_rfl) (fun _ _ _ h => h) (Or.inl ⟨by rfl, ?_⟩) ?_ ?_
                              rotate_left
                              · intro w'
                                go_simp
                                with_reducible rfl
                              rotate_left
                              · simp only [Act.put, List.setIfInBounds_toArray, List.set_cons_zero, List.set_cons_succ, i64_w, i32_w]
                                rfl
                              refine done_ (by kernel_rfl) ?_
                              try go_wp2
                              go_roundg k2
                              case measure => have := HK1.out; have := HK2.out; omega
                              case rel => exact ⟨(wrap64 (x10_2 + 1)), (by first | rfl | (simp; done) | (simp [*]; done)), H', ⟨by have := HK1.out; have := HK2.out; omega⟩, ⟨by (with_reducible repeat (first | refine blk_drewN ?_ _ | refine blk_drew ?_ | refine blk_alloc ?_ _)); exact BK110.out⟩, ⟨by (with_reducible repeat (first | refine blk_drewN ?_ _ | refine blk_drew ?_ | refine blk_alloc ?_ _)); exact BK111.out⟩, ⟨by (with_reducible repeat (first | refine blk_drewN ?_ _ | refine blk_drew ?_ | refine blk_alloc ?_ _)); exact BK112.out⟩, ⟨by repeat (first | (with_reducible first | exact HB.out | apply below_alloc | apply pw_below_drewN | apply below_drew1 | refine below_set ?_ GE110.out | refine below_set ?_ GE111.out | refine below_set ?_ GE112.out) | exact HB.out)⟩⟩
                          · rw [if_neg c45] at H
                            exact absurd H (by simp)
                        · rw [if_neg c44] at H
                          exact absurd H (by simp)
                      · rw [if_neg c43] at H
                        exact absurd H (by simp)
                    · rw [if_neg c42] at H
                      exact absurd H (by simp)
                  · rw [if_neg c41] at H
                    have c41b0 : decide (x10_2 < x9_1) = false := decide_eq_false c41
                    clear c41
                    have H' := Aside0.mk H
                    clear H
                    go_wp2
                    go_roundg k2
                    case measure => have := HK1.out; have := HK2.out; omega
                    case rel => exact ⟨(wrap64 (x9_1 + 1)), (by first | rfl | (simp; done) | (simp [*]; done)), H', ⟨by have := HK1.out; have := HK2.out; omega⟩, ⟨by (with_reducible repeat (first | refine blk_drewN ?_ _ | refine blk_drew ?_ | refine blk_alloc ?_ _)); exact BK110.out⟩, ⟨by (with_reducible repeat (first | refine blk_drewN ?_ _ | refine blk_drew ?_ | refine blk_alloc ?_ _)); exact BK111.out⟩, ⟨by (with_reducible repeat (first | refine blk_drewN ?_ _ | refine blk_drew ?_ | refine blk_alloc ?_ _)); exact BK112.out⟩, ⟨by repeat (first | (with_reducible first | exact HB.out | apply below_alloc | apply pw_below_drewN | apply below_drew1 | refine below_set ?_ GE110.out | refine below_set ?_ GE111.out | refine below_set ?_ GE112.out) | exact HB.out)⟩⟩
            · rw [if_neg c34] at H
              have c34b0 : (t113 == (rd [4, 5, 6, 9, 10] x9_1)) = false := beq_eq_false_iff_ne.mpr c34
              have c34b1 : (t113 != (rd [4, 5, 6, 9, 10] x9_1)) = true := bne_iff_ne.mpr c34
              obtain rfl := Option.some.inj H
              have hnb49 := NB111_110.out
              have hnc49 := NB110_111.out
              have hnb50 := NB111_112.out
              have hnc50 := NB112_111.out
              have hcz51_0 : wr.cell? ⟨gb111, 0, none⟩ = some (.int .u8 t104) := (blk_cell BK111.out 0).trans rfl
              have hcz51_1 : wr.cell? ⟨gb111, 1, none⟩ = some (.int .u8 t105) := (blk_cell BK111.out 1).trans rfl
              have hcz51_2 : wr.cell? ⟨gb111, 2, none⟩ = some (.int .u8 t106) := (blk_cell BK111.out 2).trans rfl
              have hcz51_3 : wr.cell? ⟨gb111, 3, none⟩ = some (.int .u8 t107) := (blk_cell BK111.out 3).trans rfl
              have hcz51_4 : wr.cell? ⟨gb111, 4, none⟩ = some (.int .u8 t108) := (blk_cell BK111.out 4).trans rfl
              have hfz51_0 := blk_frozen BK111.out 0
              have hfz51_1 := blk_frozen BK111.out 1
              have hfz51_2 := blk_frozen BK111.out 2
              have hfz51_3 := blk_frozen BK111.out 3
              have hfz51_4 := blk_frozen BK111.out 4
              have hax52 := arr_cell (w := wr) (g := gb111) (e := fun n_ => Value.int .u8 n_) 0 1 [t104, t105, t106, t107, t108] x9_1 (fun i_ hi_ => by match i_, hi_ with | 0, _ => exact hcz51_0 | 1, _ => exact hcz51_1 | 2, _ => exact hcz51_2 | 3, _ => exact hcz51_3 | 4, _ => exact hcz51_4) (by first | omega | exact of_eq_true (by assumption)) (by simp only [List.length_cons, List.length_nil]; first | omega | (have h_ : (x9_1 : Int) < 5 := of_eq_true (by assumption); omega))
              (try simp only [Nat.zero_add, Nat.mul_one] at hax52)
              try go_wp2
              (try (rw [drewN_self wr]; generalize hq_ : World.drewN wr _ = wr; have n0_ : Aside0 (wr.heap[gb110]? = some (.cells #[.bool t103, .int .u8 t104, .int .u8 t105, .int .u8 t106, .int .u8 t107, .int .u8 t108] 25 (0, 0))) := ⟨by rw [← hq_]; exact (by (with_reducible repeat (first | refine blk_drewN ?_ _ | refine blk_drew ?_ | refine blk_alloc ?_ _)); exact BK110.out)⟩; have n1_ : Aside0 (wr.heap[gb111]? = some (.cells #[.int .u8 t104, .int .u8 t105, .int .u8 t106, .int .u8 t107, .int .u8 t108] 28 (0, 0))) := ⟨by rw [← hq_]; exact (by (with_reducible repeat (first | refine blk_drewN ?_ _ | refine blk_drew ?_ | refine blk_alloc ?_ _)); exact BK111.out)⟩; have n2_ : Aside0 (wr.heap[gb112]? = some (.cells #[.int .i64 4, .int .i64 5, .int .i64 6, .int .i64 9, .int .i64 10] 29 (0, 0))) := ⟨by rw [← hq_]; exact (by (with_reducible repeat (first | refine blk_drewN ?_ _ | refine blk_drew ?_ | refine blk_alloc ?_ _)); exact BK112.out)⟩; have n3_ : Aside0 (Below w.heap.size w wr) := ⟨by rw [← hq_]; exact (by repeat (first | (with_reducible first | exact HB.out | apply below_alloc | apply pw_below_drewN | apply below_drew1 | refine below_set ?_ GE110.out | refine below_set ?_ GE111.out | refine below_set ?_ GE112.out) | exact HB.out))⟩; clear BK110 BK111 BK112 HB hq_; have BK110 := n0_; have BK111 := n1_; have BK112 := n2_; have HB := n3_; clear n0_ n1_ n2_ n3_))
              have n0_ := Aside0.mk (blk_drew BK110.out)
              have n1_ := Aside0.mk (blk_drew BK111.out)
              have n2_ := Aside0.mk (blk_drew BK112.out)
              have n3_ := Aside0.mk (below_drew1 HB.out)
              clear BK110
              clear BK111
              clear BK112
              clear HB
              have BK110 := n0_
              have BK111 := n1_
              have BK112 := n2_
              have HB := n3_
              clear n0_ n1_ n2_ n3_
              refine start_ (n := 9) (S := fun w' => w'.cell? ⟨gb111, 0, none⟩ = some (.int .u8 t104) ∧ w'.cell? ⟨gb111, 1, none⟩ = some (.int .u8 t105) ∧ w'.cell? ⟨gb111, 2, none⟩ = some (.int .u8 t106) ∧ w'.cell? ⟨gb111, 3, none⟩ = some (.int .u8 t107) ∧ w'.cell? ⟨gb111, 4, none⟩ = some (.int .u8 t108) ∧ w'.cell? ⟨gb112, 0, none⟩ = some (.int .i64 4) ∧ w'.cell? ⟨gb112, 1, none⟩ = some (.int .i64 5) ∧ w'.cell? ⟨gb112, 2, none⟩ = some (.int .i64 6) ∧ w'.cell? ⟨gb112, 3, none⟩ = some (.int .i64 9) ∧ w'.cell? ⟨gb112, 4, none⟩ = some (.int .i64 10) ∧ w'.cell? ⟨gb111, x9_1.toNat, none⟩ = some (.int .u8 (rd [t104, t105, t106, t107, t108] x9_1)) ∧ w'.cell? ⟨gb112, x9_1.toNat, none⟩ = some (.int .i64 (rd [4, 5, 6, 9, 10] x9_1))) (ds := []) #[false, false, false, false, false, false, false, false, false] (by kernel_rfl) rfl rfl ⟨(blk_cell BK111.out 0).trans rfl, (blk_cell BK111.out 1).trans rfl, (blk_cell BK111.out 2).trans rfl, (blk_cell BK111.out 3).trans rfl, (blk_cell BK111.out 4).trans rfl, (blk_cell BK112.out 0).trans rfl, (blk_cell BK112.out 1).trans rfl, (blk_cell BK112.out 2).trans rfl, (blk_cell BK112.out 3).trans rfl, (blk_cell BK112.out 4).trans rfl, (arr_cell1 (e := fun n_ => Value.int .u8 n_) [t104, t105, t106, t107, t108] x9_1 (fun i_ hi_ => by match i_, hi_ with | 0, _ => exact (blk_cell BK111.out 0).trans rfl | 1, _ => exact (blk_cell BK111.out 1).trans rfl | 2, _ => exact (blk_cell BK111.out 2).trans rfl | 3, _ => exact (blk_cell BK111.out 3).trans rfl | 4, _ => exact (blk_cell BK111.out 4).trans rfl) (by first | omega | exact of_eq_true (by assumption)) (by simp only [List.length_cons, List.length_nil]; first | omega | (have h_ : (x9_1 : Int) < 5 := of_eq_true (by assumption); omega))), (arr_cell1 (e := fun n_ => Value.int .i64 n_) [4, 5, 6, 9, 10] x9_1 (fun i_ hi_ => by match i_, hi_ with | 0, _ => exact (blk_cell BK112.out 0).trans rfl | 1, _ => exact (blk_cell BK112.out 1).trans rfl | 2, _ => exact (blk_cell BK112.out 2).trans rfl | 3, _ => exact (blk_cell BK112.out 3).trans rfl | 4, _ => exact (blk_cell BK112.out 4).trans rfl) (by first | omega | exact of_eq_true (by assumption)) (by simp only [List.length_cons, List.length_nil]; first | omega | (have h_ : (x9_1 : Int) < 5 := of_eq_true (by assumption); omega)))⟩ (fun hHeld => ?_); refine with_tabW drachmlaw07_StyleApart.tab12 drachmlaw07_StyleApart.bits12 (fun HT_ HW_ => ?_)
              generalize wr.drew = w53 at BK110 BK111 BK112 HB hHeld ⊢
              refine pure_ (i := 0) (N := some 42) (v := ?_) (a' := ?_) #[true, false, false, false, false, false, false, false, false] rfl rfl (any_of HT_.out (by kernel_rfl)) (fun _ _ _ h => h) (Or.inl ⟨by rfl, ?_⟩) ?_ ?_
              rotate_left
              · intro w'
                go_simp
                with_reducible rfl
              rotate_left
              · simp only [Act.put, List.setIfInBounds_toArray, List.set_cons_zero, List.set_cons_succ, i64_w, i32_w]
                rfl
              refine pure_ (i := 1) (N := some 43) (v := ?_) (a' := ?_) #[true, true, false, false, false, false, false, false, false] rfl rfl (any_of HT_.out (by kernel_rfl)) (fun _ _ _ h => h) (Or.inl ⟨by rfl, ?_⟩) ?_ ?_
              rotate_left
              · intro w'
                go_simp
                with_reducible rfl
              rotate_left
              · simp only [Act.put, List.setIfInBounds_toArray, List.set_cons_zero, List.set_cons_succ, i64_w, i32_w]
                rfl
              refine pure_ (i := 2) (N := some 44) (v := ?_) (a' := ?_) #[true, true, true, false, false, false, false, false, false] rfl rfl (any_of HT_.out (by kernel_rfl)) (fun _ _ _ h => h) (Or.inl ⟨by rfl, ?_⟩) ?_ ?_
              rotate_left
              · intro w'
                go_simp
                with_reducible rfl
              rotate_left
              · simp only [Act.put, List.setIfInBounds_toArray, List.set_cons_zero, List.set_cons_succ, i64_w, i32_w]
                rfl
              refine pure_ (i := 5) (N := some 47) (v := ?_) (a' := ?_) #[true, true, true, false, false, true, false, false, false] rfl rfl (any_of HT_.out (by kernel_rfl)) (fun _ _ _ h => h) (Or.inl ⟨by rfl, ?_⟩) ?_ ?_
              rotate_left
              · intro w'
                go_simp
                with_reducible rfl
              rotate_left
              · simp only [Act.put, List.setIfInBounds_toArray, List.set_cons_zero, List.set_cons_succ, i64_w, i32_w]
                rfl
              refine pure_ (i := 6) (N := some 48) (v := ?_) (a' := ?_) #[true, true, true, false, false, true, true, false, false] rfl rfl (any_of HT_.out (by kernel_rfl)) (fun _ _ _ h => h) (Or.inl ⟨by rfl, ?_⟩) ?_ ?_
              rotate_left
              · intro w'
                go_simp
                with_reducible rfl
              rotate_left
              · simp only [Act.put, List.setIfInBounds_toArray, List.set_cons_zero, List.set_cons_succ, i64_w, i32_w]
                rfl
              refine take_ (i := 3) (N := some 45) (v := ?_) (a' := ?_) #[true, true, true, true, false, true, true, false, false] rfl rfl (take_ofW HT_.out HW_.out (by kernel_rfl)) (fun _ _ _ h => h) (Or.inl ⟨by rfl, ?_⟩) hHeld ?_ ?_
              rotate_left
              · rintro w' ⟨s0, s1, s2, s3, s4, s5, s6, s7, s8, s9, s10, s11⟩
                go_simp
                with_reducible rfl
              rotate_left
              · simp only [Act.put, List.setIfInBounds_toArray, List.set_cons_zero, List.set_cons_succ, i64_w, i32_w]
                rfl
              refine take_ (i := 7) (N := some 49) (v := ?_) (a' := ?_) #[true, true, true, true, false, true, true, true, false] rfl rfl (take_ofW HT_.out HW_.out (by kernel_rfl)) (fun _ _ _ h => h) (Or.inl ⟨by rfl, ?_⟩) hHeld ?_ ?_
              rotate_left
              · rintro w' ⟨s0, s1, s2, s3, s4, s5, s6, s7, s8, s9, s10, s11⟩
                go_simp
                with_reducible rfl
              rotate_left
              · simp only [Act.put, List.setIfInBounds_toArray, List.set_cons_zero, List.set_cons_succ, i64_w, i32_w]
                rfl
              refine one_ (i := 4) (N := some 46) #[true, true, true, true, true, true, true, true, false] rfl rfl (one_of HT_.out (by kernel_rfl)) (by decide) (fun K hK => ?_)
              refine goes_ Tryd.func10 (by kernel_rfl) rfl #[.int .i64 (wrap64 (1 + t102)), .int .u8 (rd [t104, t105, t106, t107, t108] x9_1)] (by rfl) rfl rfl (by (try simp only [List.map_toArray, List.map_cons, List.map_nil]); first | done | rfl | (simp only [List.length_drop, List.length_take]; rfl)) ?_
              with_reducible refine (style_Kind.calls k1 (wrap64 (1 + t102)) (rd [t104, t105, t106, t107, t108] x9_1) t113 _ (Glob.use hG (by decide) (by repeat (first | (with_reducible first | exact HB.out | exact Below.refl _ _ | apply below_alloc | apply pw_below_drewN | apply below_drew1) | exact HB.out | exact Below.refl _ _))) A31.out).mono ?_
              rintro e w54 ⟨rfl, hb⟩
              refine ⟨_, rfl, ?_⟩
              have n0_ := Aside0.mk (blk_below (g := gb110) (o := .cells #[.bool t103, .int .u8 t104, .int .u8 t105, .int .u8 t106, .int .u8 t107, .int .u8 t108] 25 (0, 0)) (by (with_reducible repeat (first | refine blk_drewN ?_ _ | refine blk_drew ?_ | refine blk_alloc ?_ _)); exact BK110.out) hb)
              have n1_ := Aside0.mk (blk_below (g := gb111) (o := .cells #[.int .u8 t104, .int .u8 t105, .int .u8 t106, .int .u8 t107, .int .u8 t108] 28 (0, 0)) (by (with_reducible repeat (first | refine blk_drewN ?_ _ | refine blk_drew ?_ | refine blk_alloc ?_ _)); exact BK111.out) hb)
              have n2_ := Aside0.mk (blk_below (g := gb112) (o := .cells #[.int .i64 4, .int .i64 5, .int .i64 6, .int .i64 9, .int .i64 10] 29 (0, 0)) (by (with_reducible repeat (first | refine blk_drewN ?_ _ | refine blk_drew ?_ | refine blk_alloc ?_ _)); exact BK112.out) hb)
              have n3_ := Aside0.mk (below_step (by repeat (first | (with_reducible first | exact HB.out | apply below_alloc | apply pw_below_drewN | apply below_drew1 | refine below_set ?_ GE110.out | refine below_set ?_ GE111.out | refine below_set ?_ GE112.out) | exact HB.out)) hb)
              clear BK110
              clear BK111
              clear BK112
              clear HB
              have BK110 := n0_
              have BK111 := n1_
              have BK112 := n2_
              have HB := n3_
              clear n0_ n1_ n2_ n3_
              (try clear hb)
              (try clear hb2)
              (try clear hk)
              (try clear hi)
              refine hK.out _ _ ⟨(blk_cell BK111.out 0).trans rfl, (blk_cell BK111.out 1).trans rfl, (blk_cell BK111.out 2).trans rfl, (blk_cell BK111.out 3).trans rfl, (blk_cell BK111.out 4).trans rfl, (blk_cell BK112.out 0).trans rfl, (blk_cell BK112.out 1).trans rfl, (blk_cell BK112.out 2).trans rfl, (blk_cell BK112.out 3).trans rfl, (blk_cell BK112.out 4).trans rfl, (arr_cell1 (e := fun n_ => Value.int .u8 n_) [t104, t105, t106, t107, t108] x9_1 (fun i_ hi_ => by match i_, hi_ with | 0, _ => exact (blk_cell BK111.out 0).trans rfl | 1, _ => exact (blk_cell BK111.out 1).trans rfl | 2, _ => exact (blk_cell BK111.out 2).trans rfl | 3, _ => exact (blk_cell BK111.out 3).trans rfl | 4, _ => exact (blk_cell BK111.out 4).trans rfl) (by first | omega | exact of_eq_true (by assumption)) (by simp only [List.length_cons, List.length_nil]; first | omega | (have h_ : (x9_1 : Int) < 5 := of_eq_true (by assumption); omega))), (arr_cell1 (e := fun n_ => Value.int .i64 n_) [4, 5, 6, 9, 10] x9_1 (fun i_ hi_ => by match i_, hi_ with | 0, _ => exact (blk_cell BK112.out 0).trans rfl | 1, _ => exact (blk_cell BK112.out 1).trans rfl | 2, _ => exact (blk_cell BK112.out 2).trans rfl | 3, _ => exact (blk_cell BK112.out 3).trans rfl | 4, _ => exact (blk_cell BK112.out 4).trans rfl) (by first | omega | exact of_eq_true (by assumption)) (by simp only [List.length_cons, List.length_nil]; first | omega | (have h_ : (x9_1 : Int) < 5 := of_eq_true (by assumption); omega)))⟩ (fun hHeld => ?_)
              clear hK K
              refine norm_ (a' := ?_) ?_ ?_
              rotate_left
              · show Act.put _ (some 46) _ = _
                simp only [Act.put, List.setIfInBounds_toArray, List.set_cons_zero, List.set_cons_succ, i64_w, i32_w]
                rfl
              refine pure_ (i := 8) (N := some 50) (v := ?_) (a' := ?_) #[true, true, true, true, true, true, true, true, true] rfl rfl (any_of HT_.out (by kernel_rfl)) (fun _ _ _ h => h) (Or.inl ⟨by rfl, ?_⟩) ?_ ?_
              rotate_left
              · intro w'
                go_simp
                with_reducible rfl
              rotate_left
              · simp only [Act.put, List.setIfInBounds_toArray, List.set_cons_zero, List.set_cons_succ, i64_w, i32_w]
                rfl
              refine done_ (done_of HT_.out (by kernel_rfl)) ?_
              try go_wp2
              go_ret
              exact ⟨by first | rfl | (simp [errW_none, errW_some] <;> rfl) | (simp [*, errW_none, errW_some] <;> rfl), by repeat (first | (with_reducible first | exact HB.out | apply below_alloc | apply pw_below_drewN | apply below_drew1 | refine below_set ?_ GE110.out | refine below_set ?_ GE111.out | refine below_set ?_ GE112.out) | exact HB.out)⟩
        · rw [if_neg c17] at H
          exact absurd H (by simp)
      · rw [if_neg c16] at H
        have c16b0 : decide (x9_1 < 5) = false := decide_eq_false c16
        clear c16
        by_cases c55 : t101 = true
        · subst c55
          have H1 : (if t109 = true then (some ((t107 == 0) == (t108 == 0))) else (some false)) = some r := by rw [if_pos rfl] at H; exact H
          clear H
          have H := H1
          clear H1
          by_cases c56 : t109 = true
          · subst c56
            have H1 : (some ((t107 == 0) == (t108 == 0))) = some r := by rw [if_pos rfl] at H; exact H
            clear H
            have H := H1
            clear H1
            obtain rfl := Option.some.inj H
            have hnb57 := NB110_111.out
            have hnc57 := NB111_110.out
            have hnb58 := NB110_112.out
            have hnc58 := NB112_110.out
            have hcz59_0 : wr.cell? ⟨gb110, 0, none⟩ = some (.bool t103) := (blk_cell BK110.out 0).trans rfl
            have hcz59_1 : wr.cell? ⟨gb110, 1, none⟩ = some (.int .u8 t104) := (blk_cell BK110.out 1).trans rfl
            have hcz59_2 : wr.cell? ⟨gb110, 2, none⟩ = some (.int .u8 t105) := (blk_cell BK110.out 2).trans rfl
            have hcz59_3 : wr.cell? ⟨gb110, 3, none⟩ = some (.int .u8 t106) := (blk_cell BK110.out 3).trans rfl
            have hcz59_4 : wr.cell? ⟨gb110, 4, none⟩ = some (.int .u8 t107) := (blk_cell BK110.out 4).trans rfl
            have hcz59_5 : wr.cell? ⟨gb110, 5, none⟩ = some (.int .u8 t108) := (blk_cell BK110.out 5).trans rfl
            have hfz59_0 := blk_frozen BK110.out 0
            have hfz59_1 := blk_frozen BK110.out 1
            have hfz59_2 := blk_frozen BK110.out 2
            have hfz59_3 := blk_frozen BK110.out 3
            have hfz59_4 := blk_frozen BK110.out 4
            have hfz59_5 := blk_frozen BK110.out 5
            go_wp2
            go_ret
            exact ⟨by first | rfl | (simp [errW_none, errW_some] <;> rfl) | (simp [*, errW_none, errW_some] <;> rfl), by repeat (first | (with_reducible first | exact HB.out | apply below_alloc | apply pw_below_drewN | apply below_drew1 | refine below_set ?_ GE110.out | refine below_set ?_ GE111.out | refine below_set ?_ GE112.out) | exact HB.out)⟩
          · replace c56 := Bool.eq_false_iff.mpr c56
            subst c56
            have H1 : (some false) = some r := by rw [if_neg (show ¬ (false = true) by decide)] at H; exact H
            clear H
            have H := H1
            clear H1
            obtain rfl := Option.some.inj H
            go_wp2
            go_ret
            exact ⟨by first | rfl | (simp [errW_none, errW_some] <;> rfl) | (simp [*, errW_none, errW_some] <;> rfl), by repeat (first | (with_reducible first | exact HB.out | apply below_alloc | apply pw_below_drewN | apply below_drew1 | refine below_set ?_ GE110.out | refine below_set ?_ GE111.out | refine below_set ?_ GE112.out) | exact HB.out)⟩
        · replace c55 := Bool.eq_false_iff.mpr c55
          subst c55
          have H1 : (some false) = some r := by rw [if_neg (show ¬ (false = true) by decide)] at H; exact H
          clear H
          have H := H1
          clear H1
          obtain rfl := Option.some.inj H
          go_wp2
          go_ret
          exact ⟨by first | rfl | (simp [errW_none, errW_some] <;> rfl) | (simp [*, errW_none, errW_some] <;> rfl), by repeat (first | (with_reducible first | exact HB.out | apply below_alloc | apply pw_below_drewN | apply below_drew1 | refine below_set ?_ GE110.out | refine below_set ?_ GE111.out | refine below_set ?_ GE112.out) | exact HB.out)⟩

/-- THE ONE PURE STATEMENT of drachmlaw07_StyleApart: yours. -/
def drachmlaw07_StyleApart.Pure : Prop := ∀ (a0 : Int), (Lit.int .i64 a0).wf = true → ∃ k, drachmlaw07_StyleApart.f k a0 = some true
theorem drachmlaw07_StyleApart.walk (P : drachmlaw07_StyleApart.Pure) (a0 : Int) (w : World) (hG : Glob [0] w) (w0 : (Lit.int .i64 a0).wf = true) :
    Calls Tryd.prog 3 #[.int .i64 a0] w fun e w' => e = .returned (.bool true) ∧ Below w.heap.size w w' := by
  obtain ⟨k, h⟩ := P a0 w0
  refine (drachmlaw07_StyleApart.calls k a0 true w hG h).mono ?_
  rintro e w' ⟨rfl, hd⟩
  exact ⟨rfl, hd⟩

end Go.Proofs.YtgcaelopcdpkgaaDoor.PStyleApart
