/- Printed by a program of this session (wip/tools/prt.py) out of the translation: plain functions, and that the calls come to just them. No conditions beyond those that stand in each theorem. -/
import Derived.Test.YtgcaelopcdpkgaaDoorPBasex0
import Derived.Test.YtgcaelopcdpkgaaDoorPBasex1
namespace Go.Proofs.YtgcaelopcdpkgaaDoor.PBase
open Go.RowKit Go.Proofs.YtgcaelopcdpkgaaDoorW.PrintWords Go.Proofs.YtgcaelopcdpkgaaDoorW.PrintLast Go.Proofs.YtgcaelopcdpkgaaDoorW.PrintMore
attribute [local go_sem] max2_int min2_int max_two min_two max_three min_three max_four min_four   -- for this text's walks alone
set_option linter.unusedVariables false
set_option linter.unusedSimpArgs false

/-! ### drachmref07_Kind: function 19 -/
mutual
def drachmref07_Kind.j0 : Nat → Int → Bool → Bool → Int → Int → Int → Int → Int → Option (Int)
  | 0, _, _, _, _, _, _, _, _ => none
  | k + 1, x1, x14, x109000, x109001, x109002, x109003, x109004, x109005 => if x14 = true then (some 0) else (if x1 ≥ 97 then (if x1 ≤ 122 then (drachmref07_Kind.j1 k x1 true x109000 x109001 x109002 x109003 x109004 x109005) else (if x1 ≥ 65 then (if x1 ≤ 90 then (drachmref07_Kind.j1 k x1 true x109000 x109001 x109002 x109003 x109004 x109005) else (if x1 = 37 then (drachmref07_Kind.j1 k x1 true x109000 x109001 x109002 x109003 x109004 x109005) else (if x1 = 39 then (drachmref07_Kind.j1 k x1 true x109000 x109001 x109002 x109003 x109004 x109005) else (if x1 = 95 then (drachmref07_Kind.j1 k x1 true x109000 x109001 x109002 x109003 x109004 x109005) else (if x1 = 91 then (drachmref07_Kind.j1 k x1 true x109000 x109001 x109002 x109003 x109004 x109005) else (drachmref07_Kind.j1 k x1 (x1 == 93) x109000 x109001 x109002 x109003 x109004 x109005)))))) else (if x1 = 37 then (drachmref07_Kind.j1 k x1 true x109000 x109001 x109002 x109003 x109004 x109005) else (if x1 = 39 then (drachmref07_Kind.j1 k x1 true x109000 x109001 x109002 x109003 x109004 x109005) else (if x1 = 95 then (drachmref07_Kind.j1 k x1 true x109000 x109001 x109002 x109003 x109004 x109005) else (if x1 = 91 then (drachmref07_Kind.j1 k x1 true x109000 x109001 x109002 x109003 x109004 x109005) else (drachmref07_Kind.j1 k x1 (x1 == 93) x109000 x109001 x109002 x109003 x109004 x109005))))))) else (if x1 ≥ 65 then (if x1 ≤ 90 then (drachmref07_Kind.j1 k x1 true x109000 x109001 x109002 x109003 x109004 x109005) else (if x1 = 37 then (drachmref07_Kind.j1 k x1 true x109000 x109001 x109002 x109003 x109004 x109005) else (if x1 = 39 then (drachmref07_Kind.j1 k x1 true x109000 x109001 x109002 x109003 x109004 x109005) else (if x1 = 95 then (drachmref07_Kind.j1 k x1 true x109000 x109001 x109002 x109003 x109004 x109005) else (if x1 = 91 then (drachmref07_Kind.j1 k x1 true x109000 x109001 x109002 x109003 x109004 x109005) else (drachmref07_Kind.j1 k x1 (x1 == 93) x109000 x109001 x109002 x109003 x109004 x109005)))))) else (if x1 = 37 then (drachmref07_Kind.j1 k x1 true x109000 x109001 x109002 x109003 x109004 x109005) else (if x1 = 39 then (drachmref07_Kind.j1 k x1 true x109000 x109001 x109002 x109003 x109004 x109005) else (if x1 = 95 then (drachmref07_Kind.j1 k x1 true x109000 x109001 x109002 x109003 x109004 x109005) else (if x1 = 91 then (drachmref07_Kind.j1 k x1 true x109000 x109001 x109002 x109003 x109004 x109005) else (drachmref07_Kind.j1 k x1 (x1 == 93) x109000 x109001 x109002 x109003 x109004 x109005)))))))
def drachmref07_Kind.j1 : Nat → Int → Bool → Bool → Int → Int → Int → Int → Int → Option (Int)
  | 0, _, _, _, _, _, _, _, _ => none
  | k + 1, x1, x48, x109000, x109001, x109002, x109003, x109004, x109005 => if x48 = true then (some 1) else (if x1 ≥ 48 then (drachmref07_Kind.j2 k x1 (decide (x1 ≤ 57)) x109000 x109001 x109002 x109003 x109004 x109005) else (drachmref07_Kind.j2 k x1 false x109000 x109001 x109002 x109003 x109004 x109005))
def drachmref07_Kind.j2 : Nat → Int → Bool → Bool → Int → Int → Int → Int → Int → Option (Int)
  | 0, _, _, _, _, _, _, _, _ => none
  | k + 1, x1, x54, x109000, x109001, x109002, x109003, x109004, x109005 => if x54 = true then (some 2) else (if x1 = 43 then (drachmref07_Kind.j3 k x1 (x1 == 43) x109000 x109001 x109002 x109003 x109004 x109005) else (drachmref07_Kind.j3 k x1 (x1 == 45) x109000 x109001 x109002 x109003 x109004 x109005))
def drachmref07_Kind.j3 : Nat → Int → Bool → Bool → Int → Int → Int → Int → Int → Option (Int)
  | 0, _, _, _, _, _, _, _, _ => none
  | k + 1, x55, x56, x109000, x109001, x109002, x109003, x109004, x109005 => if x56 = true then (some 3) else (if x55 = 40 then (some 7) else (if x55 = 41 then (some 8) else (if x55 = x109001 then (some 4) else (if x55 = x109002 then (some 5) else (if x55 = x109003 then (some 6) else (if x55 = x109004 then (some 9) else (if x55 = x109005 then (some 10) else (some 0))))))))
end
def drachmref07_Kind.f (k : Nat) (a0 : Int) (a1 : Int) : Option (Int) := (drachmref07_Of.f a0).bind fun bt102 => (if bt102.2.1 = 0 then (drachmref07_Kind.j0 k a1 true bt102.1 bt102.2.1 bt102.2.2.1 bt102.2.2.2.1 bt102.2.2.2.2.1 bt102.2.2.2.2.2) else (drachmref07_Kind.j0 k a1 (a1 == 0) bt102.1 bt102.2.1 bt102.2.2.1 bt102.2.2.2.1 bt102.2.2.2.2.1 bt102.2.2.2.2.2))
theorem drachmref07_Kind.mono_l : ∀ k, (∀ y0 y1 y2 y3 y4 y5 y6 y7, LeO (drachmref07_Kind.j0 k y0 y1 y2 y3 y4 y5 y6 y7) (drachmref07_Kind.j0 (k + 1) y0 y1 y2 y3 y4 y5 y6 y7)) ∧ (∀ y0 y1 y2 y3 y4 y5 y6 y7, LeO (drachmref07_Kind.j1 k y0 y1 y2 y3 y4 y5 y6 y7) (drachmref07_Kind.j1 (k + 1) y0 y1 y2 y3 y4 y5 y6 y7)) ∧ (∀ y0 y1 y2 y3 y4 y5 y6 y7, LeO (drachmref07_Kind.j2 k y0 y1 y2 y3 y4 y5 y6 y7) (drachmref07_Kind.j2 (k + 1) y0 y1 y2 y3 y4 y5 y6 y7)) ∧ (∀ y0 y1 y2 y3 y4 y5 y6 y7, LeO (drachmref07_Kind.j3 k y0 y1 y2 y3 y4 y5 y6 y7) (drachmref07_Kind.j3 (k + 1) y0 y1 y2 y3 y4 y5 y6 y7))
  | 0 => ⟨fun _ _ _ _ _ _ _ _ r h => by simp [drachmref07_Kind.j0] at h, fun _ _ _ _ _ _ _ _ r h => by simp [drachmref07_Kind.j1] at h, fun _ _ _ _ _ _ _ _ r h => by simp [drachmref07_Kind.j2] at h, fun _ _ _ _ _ _ _ _ r h => by simp [drachmref07_Kind.j3] at h⟩
  | k + 1 => by
    obtain ⟨ih0, ih1, ih2, ih3⟩ := drachmref07_Kind.mono_l k
    refine ⟨?_, ?_, ?_, ?_⟩
    · intro y0 y1 y2 y3 y4 y5 y6 y7
      unfold drachmref07_Kind.j0
      repeat' first
      | (with_reducible exact ih0 _ _ _ _ _ _ _ _)
      | (with_reducible exact ih1 _ _ _ _ _ _ _ _)
      | (with_reducible exact ih2 _ _ _ _ _ _ _ _)
      | (with_reducible exact ih3 _ _ _ _ _ _ _ _)
      | (with_reducible exact LeO.refl _)
      | (with_reducible exact LeO.none _)
      | (with_reducible refine LeO.ite ?_ ?_)
      | (with_reducible refine LeO.bind ?_ (fun _ => ?_))
      | exact ih0 _ _ _ _ _ _ _ _
      | exact ih1 _ _ _ _ _ _ _ _
      | exact ih2 _ _ _ _ _ _ _ _
      | exact ih3 _ _ _ _ _ _ _ _
      | exact LeO.none _
      | refine LeO.ite ?_ ?_
      | refine LeO.bind ?_ (fun _ => ?_)
    · intro y0 y1 y2 y3 y4 y5 y6 y7
      unfold drachmref07_Kind.j1
      repeat' first
      | (with_reducible exact ih0 _ _ _ _ _ _ _ _)
      | (with_reducible exact ih1 _ _ _ _ _ _ _ _)
      | (with_reducible exact ih2 _ _ _ _ _ _ _ _)
      | (with_reducible exact ih3 _ _ _ _ _ _ _ _)
      | (with_reducible exact LeO.refl _)
      | (with_reducible exact LeO.none _)
      | (with_reducible refine LeO.ite ?_ ?_)
      | (with_reducible refine LeO.bind ?_ (fun _ => ?_))
      | exact ih0 _ _ _ _ _ _ _ _
      | exact ih1 _ _ _ _ _ _ _ _
      | exact ih2 _ _ _ _ _ _ _ _
      | exact ih3 _ _ _ _ _ _ _ _
      | exact LeO.none _
      | refine LeO.ite ?_ ?_
      | refine LeO.bind ?_ (fun _ => ?_)
    · intro y0 y1 y2 y3 y4 y5 y6 y7
      unfold drachmref07_Kind.j2
      repeat' first
      | (with_reducible exact ih0 _ _ _ _ _ _ _ _)
      | (with_reducible exact ih1 _ _ _ _ _ _ _ _)
      | (with_reducible exact ih2 _ _ _ _ _ _ _ _)
      | (with_reducible exact ih3 _ _ _ _ _ _ _ _)
      | (with_reducible exact LeO.refl _)
      | (with_reducible exact LeO.none _)
      | (with_reducible refine LeO.ite ?_ ?_)
      | (with_reducible refine LeO.bind ?_ (fun _ => ?_))
      | exact ih0 _ _ _ _ _ _ _ _
      | exact ih1 _ _ _ _ _ _ _ _
      | exact ih2 _ _ _ _ _ _ _ _
      | exact ih3 _ _ _ _ _ _ _ _
      | exact LeO.none _
      | refine LeO.ite ?_ ?_
      | refine LeO.bind ?_ (fun _ => ?_)
    · intro y0 y1 y2 y3 y4 y5 y6 y7
      unfold drachmref07_Kind.j3
      repeat' first
      | (with_reducible exact ih0 _ _ _ _ _ _ _ _)
      | (with_reducible exact ih1 _ _ _ _ _ _ _ _)
      | (with_reducible exact ih2 _ _ _ _ _ _ _ _)
      | (with_reducible exact ih3 _ _ _ _ _ _ _ _)
      | (with_reducible exact LeO.refl _)
      | (with_reducible exact LeO.none _)
      | (with_reducible refine LeO.ite ?_ ?_)
      | (with_reducible refine LeO.bind ?_ (fun _ => ?_))
      | exact ih0 _ _ _ _ _ _ _ _
      | exact ih1 _ _ _ _ _ _ _ _
      | exact ih2 _ _ _ _ _ _ _ _
      | exact ih3 _ _ _ _ _ _ _ _
      | exact LeO.none _
      | refine LeO.ite ?_ ?_
      | refine LeO.bind ?_ (fun _ => ?_)
theorem drachmref07_Kind.mono : ∀ a0 a1 k, LeO (drachmref07_Kind.f k a0 a1) (drachmref07_Kind.f (k + 1) a0 a1) := by
  intro a0 a1 k
  obtain ⟨ih0, ih1, ih2, ih3⟩ := drachmref07_Kind.mono_l k
  unfold drachmref07_Kind.f
  repeat' first
      | (with_reducible exact ih0 _ _ _ _ _ _ _ _)
      | (with_reducible exact ih1 _ _ _ _ _ _ _ _)
      | (with_reducible exact ih2 _ _ _ _ _ _ _ _)
      | (with_reducible exact ih3 _ _ _ _ _ _ _ _)
      | (with_reducible exact LeO.refl _)
      | (with_reducible exact LeO.none _)
      | (with_reducible refine LeO.ite ?_ ?_)
      | (with_reducible refine LeO.bind ?_ (fun _ => ?_))
      | exact ih0 _ _ _ _ _ _ _ _
      | exact ih1 _ _ _ _ _ _ _ _
      | exact ih2 _ _ _ _ _ _ _ _
      | exact ih3 _ _ _ _ _ _ _ _
      | exact LeO.none _
      | refine LeO.ite ?_ ?_
      | refine LeO.bind ?_ (fun _ => ?_)
set_option maxHeartbeats 8000000 in
set_option maxRecDepth 100000 in
theorem drachmref07_Kind.calls (k : Nat) (a0 : Int) (a1 : Int) (r : Int) (w : World) (h : drachmref07_Kind.f k a0 a1 = some r) :
    Calls Tryd.prog 19 #[.int .i64 a0, .int .u8 a1] w fun e w' => e = .returned (.int .i64 r) ∧ Below w.heap.size w w' := by
  have hu25 := Tryd.underlying25
  have HB := Aside0.mk (Below.refl w.heap.size w)
  have H : ((drachmref07_Of.f a0).bind fun bt102 => (if bt102.2.1 = 0 then (drachmref07_Kind.j0 k a1 true bt102.1 bt102.2.1 bt102.2.2.1 bt102.2.2.2.1 bt102.2.2.2.2.1 bt102.2.2.2.2.2) else (drachmref07_Kind.j0 k a1 (a1 == 0) bt102.1 bt102.2.1 bt102.2.2.1 bt102.2.2.2.1 bt102.2.2.2.2.1 bt102.2.2.2.2.2))) = some r := h
  clear h
  replace H := Option.bind_eq_some_iff.mp H
  obtain ⟨⟨t102, t103, t104, t105, t106, t107⟩, A30, H⟩ := H
  replace H : (if t103 = 0 then (drachmref07_Kind.j0 k a1 true t102 t103 t104 t105 t106 t107) else (drachmref07_Kind.j0 k a1 (a1 == 0) t102 t103 t104 t105 t106 t107)) = some r := H
  have A3 := Aside0.mk A30
  clear A30
  have HC4 := Aside0.mk H
  clear H
  go_enter Tryd.func19, Tryd.ntmps19
  go_upto_region 2 with (first | ((with_reducible refine gate_callee (f := 18) rfl ?_); refine goesL_ (some 7) rfl rfl Tryd.func18 (by kernel_rfl) rfl #[.int .i64 a0] rfl (by (try simp only [List.map_toArray, List.map_cons, List.map_nil]); first | done | rfl | (simp only [List.length_drop, List.length_take]; rfl)) ?_; (with_reducible refine (drachmref07_Of.calls a0 t102 t103 t104 t105 t106 t107 _ A3.out).mono ?_); rintro e w5 ⟨rfl, hb⟩; refine ⟨_, rfl, ?_⟩; have n0_ := Aside0.mk (below_step (by repeat (first | (with_reducible first | exact HB.out | apply below_alloc | apply pw_below_drewN | apply below_drew1) | exact HB.out)) hb); clear HB; have HB := n0_; clear n0_; (try clear hb); (try clear hb2); (try clear hk); (try clear hi)) | ((with_reducible refine gate_dst (N := 5) rfl ?_); refine box_event ?hg (N := 5) ?hd (cs := #[.bool false, .int .u8 0, .int .u8 0, .int .u8 0, .int .u8 0, .int .u8 0]) (t := 25) ?hr ?_; (case hd => rfl); (case hg => rfl); (case hr => first | (go_simp; done) | (go_simp; rfl)); intro gb108 hg w6 hbox hb; have n0_ := Aside0.mk (below_step (by repeat (first | (with_reducible first | exact HB.out | apply below_alloc | apply pw_below_drewN | apply below_drew1) | exact HB.out)) hb); have n1_ := Aside0.mk (hbox); have n2_ := Aside0.mk ((by rw [hg]; exact (below_size (by repeat (first | (with_reducible first | exact HB.out | apply below_alloc | apply pw_below_drewN | apply below_drew1) | exact HB.out))) : w.heap.size ≤ gb108)); have n3_ := Aside0.mk ((by rw [hg]; exact (below_size (by repeat (first | (with_reducible first | exact HB.out | apply below_alloc | apply pw_below_drewN | apply below_drew1) | exact HB.out))) : w.heap.size ≤ gb108)); clear HB; have HB := n0_; have BK108 := n1_; have GW108 := n2_; have GE108 := n3_; clear n0_ n1_ n2_ n3_; clear hb hbox hg; have hcz7_0 : w6.cell? ⟨gb108, 0, none⟩ = some (.bool false) := (blk_cell BK108.out 0).trans rfl; have hcz7_1 : w6.cell? ⟨gb108, 1, none⟩ = some (.int .u8 0) := (blk_cell BK108.out 1).trans rfl; have hcz7_2 : w6.cell? ⟨gb108, 2, none⟩ = some (.int .u8 0) := (blk_cell BK108.out 2).trans rfl; have hcz7_3 : w6.cell? ⟨gb108, 3, none⟩ = some (.int .u8 0) := (blk_cell BK108.out 3).trans rfl; have hcz7_4 : w6.cell? ⟨gb108, 4, none⟩ = some (.int .u8 0) := (blk_cell BK108.out 4).trans rfl; have hcz7_5 : w6.cell? ⟨gb108, 5, none⟩ = some (.int .u8 0) := (blk_cell BK108.out 5).trans rfl; have hfz7_0 := blk_frozen BK108.out 0; have hfz7_1 := blk_frozen BK108.out 1; have hfz7_2 := blk_frozen BK108.out 2; have hfz7_3 := blk_frozen BK108.out 3; have hfz7_4 := blk_frozen BK108.out 4; have hfz7_5 := blk_frozen BK108.out 5))
  (try simp only [Act.put, List.setIfInBounds_toArray, List.set_cons_zero, List.set_cons_succ])
  go_cut [14] (fun v14 wc => ∃ (kq : Nat) (x14_3 : Bool), v14 = .bool x14_3 ∧ Aside0 (drachmref07_Kind.j0 kq a1 x14_3 t102 t103 t104 t105 t106 t107 = some r) ∧ Aside0 (kq ≤ k) ∧ Aside0 (wc.heap[gb108]? = some (.cells #[.bool t102, .int .u8 t103, .int .u8 t104, .int .u8 t105, .int .u8 t106, .int .u8 t107] 25 (0, 0))) ∧ Aside0 (Below w.heap.size w wc))
  case first =>
    have H := HC4.out
    clear HC4
    by_cases c8 : t103 = 0
    · rw [if_pos c8] at H
      have c8b0 : (t103 == 0) = true := beq_iff_eq.mpr c8
      have c8b1 : (t103 != 0) = false := bne_eq_false_iff_eq.mpr c8
      clear c8
      (first | rw [c8b0] | (simp only [i64_w, i32_w]; rw [c8b0]) | skip)
      have H' := Aside0.mk H
      clear H
      have hcz9_0 : w6.cell? ⟨gb108, 0, none⟩ = some (.bool false) := (blk_cell BK108.out 0).trans rfl
      have hcz9_1 : w6.cell? ⟨gb108, 1, none⟩ = some (.int .u8 0) := (blk_cell BK108.out 1).trans rfl
      have hcz9_2 : w6.cell? ⟨gb108, 2, none⟩ = some (.int .u8 0) := (blk_cell BK108.out 2).trans rfl
      have hcz9_3 : w6.cell? ⟨gb108, 3, none⟩ = some (.int .u8 0) := (blk_cell BK108.out 3).trans rfl
      have hcz9_4 : w6.cell? ⟨gb108, 4, none⟩ = some (.int .u8 0) := (blk_cell BK108.out 4).trans rfl
      have hcz9_5 : w6.cell? ⟨gb108, 5, none⟩ = some (.int .u8 0) := (blk_cell BK108.out 5).trans rfl
      have hfz9_0 := blk_frozen BK108.out 0
      have hfz9_1 := blk_frozen BK108.out 1
      have hfz9_2 := blk_frozen BK108.out 2
      have hfz9_3 := blk_frozen BK108.out 3
      have hfz9_4 := blk_frozen BK108.out 4
      have hfz9_5 := blk_frozen BK108.out 5
      go_wp2
      go_meet
      case rel => exact ⟨_, (true), (by first | rfl | (simp; done) | (simp [*]; done)), H', ⟨by first | omega | exact Nat.le_refl _⟩, ⟨by (with_reducible repeat (first | refine blk_drewN ?_ _ | refine blk_drew ?_ | refine blk_alloc ?_ _)); refine blk_put (cs := #[.bool t102, .int .u8 t103, .int .u8 t104, .int .u8 t105, .int .u8 t106, .int .u8 0]) ?_ 5 _ rfl; (with_reducible repeat (first | refine blk_drewN ?_ _ | refine blk_drew ?_ | refine blk_alloc ?_ _)); refine blk_put (cs := #[.bool t102, .int .u8 t103, .int .u8 t104, .int .u8 t105, .int .u8 0, .int .u8 0]) ?_ 4 _ rfl; (with_reducible repeat (first | refine blk_drewN ?_ _ | refine blk_drew ?_ | refine blk_alloc ?_ _)); refine blk_put (cs := #[.bool t102, .int .u8 t103, .int .u8 t104, .int .u8 0, .int .u8 0, .int .u8 0]) ?_ 3 _ rfl; (with_reducible repeat (first | refine blk_drewN ?_ _ | refine blk_drew ?_ | refine blk_alloc ?_ _)); refine blk_put (cs := #[.bool t102, .int .u8 t103, .int .u8 0, .int .u8 0, .int .u8 0, .int .u8 0]) ?_ 2 _ rfl; (with_reducible repeat (first | refine blk_drewN ?_ _ | refine blk_drew ?_ | refine blk_alloc ?_ _)); refine blk_put (cs := #[.bool t102, .int .u8 0, .int .u8 0, .int .u8 0, .int .u8 0, .int .u8 0]) ?_ 1 _ rfl; (with_reducible repeat (first | refine blk_drewN ?_ _ | refine blk_drew ?_ | refine blk_alloc ?_ _)); refine blk_put (cs := #[.bool false, .int .u8 0, .int .u8 0, .int .u8 0, .int .u8 0, .int .u8 0]) ?_ 0 _ rfl; (with_reducible repeat (first | refine blk_drewN ?_ _ | refine blk_drew ?_ | refine blk_alloc ?_ _)); exact BK108.out⟩, ⟨by repeat (first | (with_reducible first | exact HB.out | apply below_alloc | apply pw_below_drewN | apply below_drew1 | refine below_set ?_ GE108.out) | exact HB.out)⟩⟩
    · rw [if_neg c8] at H
      have c8b0 : (t103 == 0) = false := beq_eq_false_iff_ne.mpr c8
      have c8b1 : (t103 != 0) = true := bne_iff_ne.mpr c8
      (first | rw [c8b0] | (simp only [i64_w, i32_w]; rw [c8b0]) | skip)
      have H' := Aside0.mk H
      clear H
      have hcz10_0 : w6.cell? ⟨gb108, 0, none⟩ = some (.bool false) := (blk_cell BK108.out 0).trans rfl
      have hcz10_1 : w6.cell? ⟨gb108, 1, none⟩ = some (.int .u8 0) := (blk_cell BK108.out 1).trans rfl
      have hcz10_2 : w6.cell? ⟨gb108, 2, none⟩ = some (.int .u8 0) := (blk_cell BK108.out 2).trans rfl
      have hcz10_3 : w6.cell? ⟨gb108, 3, none⟩ = some (.int .u8 0) := (blk_cell BK108.out 3).trans rfl
      have hcz10_4 : w6.cell? ⟨gb108, 4, none⟩ = some (.int .u8 0) := (blk_cell BK108.out 4).trans rfl
      have hcz10_5 : w6.cell? ⟨gb108, 5, none⟩ = some (.int .u8 0) := (blk_cell BK108.out 5).trans rfl
      have hfz10_0 := blk_frozen BK108.out 0
      have hfz10_1 := blk_frozen BK108.out 1
      have hfz10_2 := blk_frozen BK108.out 2
      have hfz10_3 := blk_frozen BK108.out 3
      have hfz10_4 := blk_frozen BK108.out 4
      have hfz10_5 := blk_frozen BK108.out 5
      go_wp2
      go_meet
      case rel => exact ⟨_, ((a1 == 0)), (by first | rfl | (simp; done) | (simp [*]; done)), H', ⟨by first | omega | exact Nat.le_refl _⟩, ⟨by (with_reducible repeat (first | refine blk_drewN ?_ _ | refine blk_drew ?_ | refine blk_alloc ?_ _)); refine blk_put (cs := #[.bool t102, .int .u8 t103, .int .u8 t104, .int .u8 t105, .int .u8 t106, .int .u8 0]) ?_ 5 _ rfl; (with_reducible repeat (first | refine blk_drewN ?_ _ | refine blk_drew ?_ | refine blk_alloc ?_ _)); refine blk_put (cs := #[.bool t102, .int .u8 t103, .int .u8 t104, .int .u8 t105, .int .u8 0, .int .u8 0]) ?_ 4 _ rfl; (with_reducible repeat (first | refine blk_drewN ?_ _ | refine blk_drew ?_ | refine blk_alloc ?_ _)); refine blk_put (cs := #[.bool t102, .int .u8 t103, .int .u8 t104, .int .u8 0, .int .u8 0, .int .u8 0]) ?_ 3 _ rfl; (with_reducible repeat (first | refine blk_drewN ?_ _ | refine blk_drew ?_ | refine blk_alloc ?_ _)); refine blk_put (cs := #[.bool t102, .int .u8 t103, .int .u8 0, .int .u8 0, .int .u8 0, .int .u8 0]) ?_ 2 _ rfl; (with_reducible repeat (first | refine blk_drewN ?_ _ | refine blk_drew ?_ | refine blk_alloc ?_ _)); refine blk_put (cs := #[.bool t102, .int .u8 0, .int .u8 0, .int .u8 0, .int .u8 0, .int .u8 0]) ?_ 1 _ rfl; (with_reducible repeat (first | refine blk_drewN ?_ _ | refine blk_drew ?_ | refine blk_alloc ?_ _)); refine blk_put (cs := #[.bool false, .int .u8 0, .int .u8 0, .int .u8 0, .int .u8 0, .int .u8 0]) ?_ 0 _ rfl; (with_reducible repeat (first | refine blk_drewN ?_ _ | refine blk_drew ?_ | refine blk_alloc ?_ _)); exact BK108.out⟩, ⟨by repeat (first | (with_reducible first | exact HB.out | apply below_alloc | apply pw_below_drewN | apply below_drew1 | refine below_set ?_ GE108.out) | exact HB.out)⟩⟩
  case rest =>
    clear HC4
    try clear c1
    try clear p2
    try clear c8
    try clear c8b0
    try clear c8b1
    try clear hcz10_0
    try clear hcz10_1
    try clear hcz10_2
    try clear hcz10_3
    try clear hcz10_4
    try clear hcz10_5
    try clear hcz7_0
    try clear hcz7_1
    try clear hcz7_2
    try clear hcz7_3
    try clear hcz7_4
    try clear hcz7_5
    try clear hcz9_0
    try clear hcz9_1
    try clear hcz9_2
    try clear hcz9_3
    try clear hcz9_4
    try clear hcz9_5
    try clear hfz10_0
    try clear hfz10_1
    try clear hfz10_2
    try clear hfz10_3
    try clear hfz10_4
    try clear hfz10_5
    try clear hfz7_0
    try clear hfz7_1
    try clear hfz7_2
    try clear hfz7_3
    try clear hfz7_4
    try clear hfz7_5
    try clear hfz9_0
    try clear hfz9_1
    try clear hfz9_2
    try clear hfz9_3
    try clear hfz9_4
    try clear hfz9_5
    obtain ⟨kq, x14_3, rfl, HA, HJ3, BK108, HB⟩ := hcut
    cases kq with
    | zero => exact absurd HA.out (by simp [drachmref07_Kind.j0])
    | succ kj3 =>
      have H := HA.out
      clear HA
      simp only [drachmref07_Kind.j0] at H
      by_cases c11 : x14_3 = true
      · subst c11
        have H1 : (some 0) = some r := by rw [if_pos rfl] at H; exact H
        clear H
        have H := H1
        clear H1
        obtain rfl := Option.some.inj H
        go_wp2
        go_ret
        exact ⟨by first | rfl | (simp [errW_none, errW_some] <;> rfl) | (simp [*, errW_none, errW_some] <;> rfl), by repeat (first | (with_reducible first | exact HB.out | apply below_alloc | apply pw_below_drewN | apply below_drew1 | refine below_set ?_ GE108.out) | exact HB.out)⟩
      · replace c11 := Bool.eq_false_iff.mpr c11
        subst c11
        have H1 : (if a1 ≥ 97 then (if a1 ≤ 122 then (drachmref07_Kind.j1 kj3 a1 true t102 t103 t104 t105 t106 t107) else (if a1 ≥ 65 then (if a1 ≤ 90 then (drachmref07_Kind.j1 kj3 a1 true t102 t103 t104 t105 t106 t107) else (if a1 = 37 then (drachmref07_Kind.j1 kj3 a1 true t102 t103 t104 t105 t106 t107) else (if a1 = 39 then (drachmref07_Kind.j1 kj3 a1 true t102 t103 t104 t105 t106 t107) else (if a1 = 95 then (drachmref07_Kind.j1 kj3 a1 true t102 t103 t104 t105 t106 t107) else (if a1 = 91 then (drachmref07_Kind.j1 kj3 a1 true t102 t103 t104 t105 t106 t107) else (drachmref07_Kind.j1 kj3 a1 (a1 == 93) t102 t103 t104 t105 t106 t107)))))) else (if a1 = 37 then (drachmref07_Kind.j1 kj3 a1 true t102 t103 t104 t105 t106 t107) else (if a1 = 39 then (drachmref07_Kind.j1 kj3 a1 true t102 t103 t104 t105 t106 t107) else (if a1 = 95 then (drachmref07_Kind.j1 kj3 a1 true t102 t103 t104 t105 t106 t107) else (if a1 = 91 then (drachmref07_Kind.j1 kj3 a1 true t102 t103 t104 t105 t106 t107) else (drachmref07_Kind.j1 kj3 a1 (a1 == 93) t102 t103 t104 t105 t106 t107))))))) else (if a1 ≥ 65 then (if a1 ≤ 90 then (drachmref07_Kind.j1 kj3 a1 true t102 t103 t104 t105 t106 t107) else (if a1 = 37 then (drachmref07_Kind.j1 kj3 a1 true t102 t103 t104 t105 t106 t107) else (if a1 = 39 then (drachmref07_Kind.j1 kj3 a1 true t102 t103 t104 t105 t106 t107) else (if a1 = 95 then (drachmref07_Kind.j1 kj3 a1 true t102 t103 t104 t105 t106 t107) else (if a1 = 91 then (drachmref07_Kind.j1 kj3 a1 true t102 t103 t104 t105 t106 t107) else (drachmref07_Kind.j1 kj3 a1 (a1 == 93) t102 t103 t104 t105 t106 t107)))))) else (if a1 = 37 then (drachmref07_Kind.j1 kj3 a1 true t102 t103 t104 t105 t106 t107) else (if a1 = 39 then (drachmref07_Kind.j1 kj3 a1 true t102 t103 t104 t105 t106 t107) else (if a1 = 95 then (drachmref07_Kind.j1 kj3 a1 true t102 t103 t104 t105 t106 t107) else (if a1 = 91 then (drachmref07_Kind.j1 kj3 a1 true t102 t103 t104 t105 t106 t107) else (drachmref07_Kind.j1 kj3 a1 (a1 == 93) t102 t103 t104 t105 t106 t107))))))) = some r := by rw [if_neg (show ¬ (false = true) by decide)] at H; exact H
        clear H
        have H := H1
        clear H1
        have HC12 := Aside0.mk H
        clear H
        go_upto_region 4 with (fail)
        go_cut [48] (fun v48 wc => ∃ (kq : Nat) (x48_11 : Bool), v48 = .bool x48_11 ∧ Aside0 (drachmref07_Kind.j1 kq a1 x48_11 t102 t103 t104 t105 t106 t107 = some r) ∧ Aside0 (kq ≤ kj3) ∧ Aside0 (wc.heap[gb108]? = some (.cells #[.bool t102, .int .u8 t103, .int .u8 t104, .int .u8 t105, .int .u8 t106, .int .u8 t107] 25 (0, 0))) ∧ Aside0 (Below w.heap.size w wc))
        case first =>
          have H := HC12.out
          clear HC12
          by_cases c13 : a1 ≥ 97
          · rw [if_pos c13] at H
            have c13b0 : decide (97 ≤ a1) = true := decide_eq_true c13
            clear c13
            (first | rw [c13b0] | (simp only [i64_w, i32_w]; rw [c13b0]) | skip)
            by_cases c14 : a1 ≤ 122
            · rw [if_pos c14] at H
              have c14b0 : decide (a1 ≤ 122) = true := decide_eq_true c14
              clear c14
              have H' := Aside0.mk H
              clear H
              go_wp2
              go_meet
              case rel => exact ⟨_, (true), (by first | rfl | (simp; done) | (simp [*]; done)), H', ⟨by have := HJ3.out; first | omega | exact Nat.le_refl _⟩, ⟨by (with_reducible repeat (first | refine blk_drewN ?_ _ | refine blk_drew ?_ | refine blk_alloc ?_ _)); exact BK108.out⟩, ⟨by repeat (first | (with_reducible first | exact HB.out | apply below_alloc | apply pw_below_drewN | apply below_drew1 | refine below_set ?_ GE108.out) | exact HB.out)⟩⟩
            · rw [if_neg c14] at H
              have c14b0 : decide (a1 ≤ 122) = false := decide_eq_false c14
              clear c14
              by_cases c15 : a1 ≥ 65
              · rw [if_pos c15] at H
                have c15b0 : decide (65 ≤ a1) = true := decide_eq_true c15
                clear c15
                by_cases c16 : a1 ≤ 90
                · rw [if_pos c16] at H
                  have c16b0 : decide (a1 ≤ 90) = true := decide_eq_true c16
                  clear c16
                  have H' := Aside0.mk H
                  clear H
                  go_wp2
                  go_meet
                  case rel => exact ⟨_, (true), (by first | rfl | (simp; done) | (simp [*]; done)), H', ⟨by have := HJ3.out; first | omega | exact Nat.le_refl _⟩, ⟨by (with_reducible repeat (first | refine blk_drewN ?_ _ | refine blk_drew ?_ | refine blk_alloc ?_ _)); exact BK108.out⟩, ⟨by repeat (first | (with_reducible first | exact HB.out | apply below_alloc | apply pw_below_drewN | apply below_drew1 | refine below_set ?_ GE108.out) | exact HB.out)⟩⟩
                · rw [if_neg c16] at H
                  have c16b0 : decide (a1 ≤ 90) = false := decide_eq_false c16
                  clear c16
                  by_cases c17 : a1 = 37
                  · rw [if_pos c17] at H
                    have c17b0 : (a1 == 37) = true := beq_iff_eq.mpr c17
                    have c17b1 : (a1 != 37) = false := bne_eq_false_iff_eq.mpr c17
                    clear c17
                    have H' := Aside0.mk H
                    clear H
                    go_wp2
                    go_meet
                    case rel => exact ⟨_, (true), (by first | rfl | (simp; done) | (simp [*]; done)), H', ⟨by have := HJ3.out; first | omega | exact Nat.le_refl _⟩, ⟨by (with_reducible repeat (first | refine blk_drewN ?_ _ | refine blk_drew ?_ | refine blk_alloc ?_ _)); exact BK108.out⟩, ⟨by repeat (first | (with_reducible first | exact HB.out | apply below_alloc | apply pw_below_drewN | apply below_drew1 | refine below_set ?_ GE108.out) | exact HB.out)⟩⟩
                  · rw [if_neg c17] at H
                    have c17b0 : (a1 == 37) = false := beq_eq_false_iff_ne.mpr c17
                    have c17b1 : (a1 != 37) = true := bne_iff_ne.mpr c17
                    by_cases c18 : a1 = 39
                    · rw [if_pos c18] at H
                      have c18b0 : (a1 == 39) = true := beq_iff_eq.mpr c18
                      have c18b1 : (a1 != 39) = false := bne_eq_false_iff_eq.mpr c18
                      clear c18
                      have H' := Aside0.mk H
                      clear H
                      go_wp2
                      go_meet
                      case rel => exact ⟨_, (true), (by first | rfl | (simp; done) | (simp [*]; done)), H', ⟨by have := HJ3.out; first | omega | exact Nat.le_refl _⟩, ⟨by (with_reducible repeat (first | refine blk_drewN ?_ _ | refine blk_drew ?_ | refine blk_alloc ?_ _)); exact BK108.out⟩, ⟨by repeat (first | (with_reducible first | exact HB.out | apply below_alloc | apply pw_below_drewN | apply below_drew1 | refine below_set ?_ GE108.out) | exact HB.out)⟩⟩
                    · rw [if_neg c18] at H
                      have c18b0 : (a1 == 39) = false := beq_eq_false_iff_ne.mpr c18
                      have c18b1 : (a1 != 39) = true := bne_iff_ne.mpr c18
                      by_cases c19 : a1 = 95
                      · rw [if_pos c19] at H
                        have c19b0 : (a1 == 95) = true := beq_iff_eq.mpr c19
                        have c19b1 : (a1 != 95) = false := bne_eq_false_iff_eq.mpr c19
                        clear c19
                        have H' := Aside0.mk H
                        clear H
                        go_wp2
                        go_meet
                        case rel => exact ⟨_, (true), (by first | rfl | (simp; done) | (simp [*]; done)), H', ⟨by have := HJ3.out; first | omega | exact Nat.le_refl _⟩, ⟨by (with_reducible repeat (first | refine blk_drewN ?_ _ | refine blk_drew ?_ | refine blk_alloc ?_ _)); exact BK108.out⟩, ⟨by repeat (first | (with_reducible first | exact HB.out | apply below_alloc | apply pw_below_drewN | apply below_drew1 | refine below_set ?_ GE108.out) | exact HB.out)⟩⟩
                      · rw [if_neg c19] at H
                        have c19b0 : (a1 == 95) = false := beq_eq_false_iff_ne.mpr c19
                        have c19b1 : (a1 != 95) = true := bne_iff_ne.mpr c19
                        by_cases c20 : a1 = 91
                        · rw [if_pos c20] at H
                          have c20b0 : (a1 == 91) = true := beq_iff_eq.mpr c20
                          have c20b1 : (a1 != 91) = false := bne_eq_false_iff_eq.mpr c20
                          clear c20
                          have H' := Aside0.mk H
                          clear H
                          go_wp2
                          go_meet
                          case rel => exact ⟨_, (true), (by first | rfl | (simp; done) | (simp [*]; done)), H', ⟨by have := HJ3.out; first | omega | exact Nat.le_refl _⟩, ⟨by (with_reducible repeat (first | refine blk_drewN ?_ _ | refine blk_drew ?_ | refine blk_alloc ?_ _)); exact BK108.out⟩, ⟨by repeat (first | (with_reducible first | exact HB.out | apply below_alloc | apply pw_below_drewN | apply below_drew1 | refine below_set ?_ GE108.out) | exact HB.out)⟩⟩
                        · rw [if_neg c20] at H
                          have c20b0 : (a1 == 91) = false := beq_eq_false_iff_ne.mpr c20
                          have c20b1 : (a1 != 91) = true := bne_iff_ne.mpr c20
                          have H' := Aside0.mk H
                          clear H
                          go_wp2
                          go_meet
                          case rel => exact ⟨_, ((a1 == 93)), (by first | rfl | (simp; done) | (simp [*]; done)), H', ⟨by have := HJ3.out; first | omega | exact Nat.le_refl _⟩, ⟨by (with_reducible repeat (first | refine blk_drewN ?_ _ | refine blk_drew ?_ | refine blk_alloc ?_ _)); exact BK108.out⟩, ⟨by repeat (first | (with_reducible first | exact HB.out | apply below_alloc | apply pw_below_drewN | apply below_drew1 | refine below_set ?_ GE108.out) | exact HB.out)⟩⟩
              · rw [if_neg c15] at H
                have c15b0 : decide (65 ≤ a1) = false := decide_eq_false c15
                clear c15
                by_cases c21 : a1 = 37
                · rw [if_pos c21] at H
                  have c21b0 : (a1 == 37) = true := beq_iff_eq.mpr c21
                  have c21b1 : (a1 != 37) = false := bne_eq_false_iff_eq.mpr c21
                  clear c21
                  have H' := Aside0.mk H
                  clear H
                  go_wp2
                  go_meet
                  case rel => exact ⟨_, (true), (by first | rfl | (simp; done) | (simp [*]; done)), H', ⟨by have := HJ3.out; first | omega | exact Nat.le_refl _⟩, ⟨by (with_reducible repeat (first | refine blk_drewN ?_ _ | refine blk_drew ?_ | refine blk_alloc ?_ _)); exact BK108.out⟩, ⟨by repeat (first | (with_reducible first | exact HB.out | apply below_alloc | apply pw_below_drewN | apply below_drew1 | refine below_set ?_ GE108.out) | exact HB.out)⟩⟩
                · rw [if_neg c21] at H
                  have c21b0 : (a1 == 37) = false := beq_eq_false_iff_ne.mpr c21
                  have c21b1 : (a1 != 37) = true := bne_iff_ne.mpr c21
                  by_cases c22 : a1 = 39
                  · rw [if_pos c22] at H
                    have c22b0 : (a1 == 39) = true := beq_iff_eq.mpr c22
                    have c22b1 : (a1 != 39) = false := bne_eq_false_iff_eq.mpr c22
                    clear c22
                    have H' := Aside0.mk H
                    clear H
                    go_wp2
                    go_meet
                    case rel => exact ⟨_, (true), (by first | rfl | (simp; done) | (simp [*]; done)), H', ⟨by have := HJ3.out; first | omega | exact Nat.le_refl _⟩, ⟨by (with_reducible repeat (first | refine blk_drewN ?_ _ | refine blk_drew ?_ | refine blk_alloc ?_ _)); exact BK108.out⟩, ⟨by repeat (first | (with_reducible first | exact HB.out | apply below_alloc | apply pw_below_drewN | apply below_drew1 | refine below_set ?_ GE108.out) | exact HB.out)⟩⟩
                  · rw [if_neg c22] at H
                    have c22b0 : (a1 == 39) = false := beq_eq_false_iff_ne.mpr c22
                    have c22b1 : (a1 != 39) = true := bne_iff_ne.mpr c22
                    by_cases c23 : a1 = 95
                    · rw [if_pos c23] at H
                      have c23b0 : (a1 == 95) = true := beq_iff_eq.mpr c23
                      have c23b1 : (a1 != 95) = false := bne_eq_false_iff_eq.mpr c23
                      clear c23
                      have H' := Aside0.mk H
                      clear H
                      go_wp2
                      go_meet
                      case rel => exact ⟨_, (true), (by first | rfl | (simp; done) | (simp [*]; done)), H', ⟨by have := HJ3.out; first | omega | exact Nat.le_refl _⟩, ⟨by (with_reducible repeat (first | refine blk_drewN ?_ _ | refine blk_drew ?_ | refine blk_alloc ?_ _)); exact BK108.out⟩, ⟨by repeat (first | (with_reducible first | exact HB.out | apply below_alloc | apply pw_below_drewN | apply below_drew1 | refine below_set ?_ GE108.out) | exact HB.out)⟩⟩
                    · rw [if_neg c23] at H
                      have c23b0 : (a1 == 95) = false := beq_eq_false_iff_ne.mpr c23
                      have c23b1 : (a1 != 95) = true := bne_iff_ne.mpr c23
                      by_cases c24 : a1 = 91
                      · rw [if_pos c24] at H
                        have c24b0 : (a1 == 91) = true := beq_iff_eq.mpr c24
                        have c24b1 : (a1 != 91) = false := bne_eq_false_iff_eq.mpr c24
                        clear c24
                        have H' := Aside0.mk H
                        clear H
                        go_wp2
                        go_meet
                        case rel => exact ⟨_, (true), (by first | rfl | (simp; done) | (simp [*]; done)), H', ⟨by have := HJ3.out; first | omega | exact Nat.le_refl _⟩, ⟨by (with_reducible repeat (first | refine blk_drewN ?_ _ | refine blk_drew ?_ | refine blk_alloc ?_ _)); exact BK108.out⟩, ⟨by repeat (first | (with_reducible first | exact HB.out | apply below_alloc | apply pw_below_drewN | apply below_drew1 | refine below_set ?_ GE108.out) | exact HB.out)⟩⟩
                      · rw [if_neg c24] at H
                        have c24b0 : (a1 == 91) = false := beq_eq_false_iff_ne.mpr c24
                        have c24b1 : (a1 != 91) = true := bne_iff_ne.mpr c24
                        have H' := Aside0.mk H
                        clear H
                        go_wp2
                        go_meet
                        case rel => exact ⟨_, ((a1 == 93)), (by first | rfl | (simp; done) | (simp [*]; done)), H', ⟨by have := HJ3.out; first | omega | exact Nat.le_refl _⟩, ⟨by (with_reducible repeat (first | refine blk_drewN ?_ _ | refine blk_drew ?_ | refine blk_alloc ?_ _)); exact BK108.out⟩, ⟨by repeat (first | (with_reducible first | exact HB.out | apply below_alloc | apply pw_below_drewN | apply below_drew1 | refine below_set ?_ GE108.out) | exact HB.out)⟩⟩
          · rw [if_neg c13] at H
            have c13b0 : decide (97 ≤ a1) = false := decide_eq_false c13
            clear c13
            (first | rw [c13b0] | (simp only [i64_w, i32_w]; rw [c13b0]) | skip)
            by_cases c25 : a1 ≥ 65
            · rw [if_pos c25] at H
              have c25b0 : decide (65 ≤ a1) = true := decide_eq_true c25
              clear c25
              by_cases c26 : a1 ≤ 90
              · rw [if_pos c26] at H
                have c26b0 : decide (a1 ≤ 90) = true := decide_eq_true c26
                clear c26
                have H' := Aside0.mk H
                clear H
                go_wp2
                go_meet
                case rel => exact ⟨_, (true), (by first | rfl | (simp; done) | (simp [*]; done)), H', ⟨by have := HJ3.out; first | omega | exact Nat.le_refl _⟩, ⟨by (with_reducible repeat (first | refine blk_drewN ?_ _ | refine blk_drew ?_ | refine blk_alloc ?_ _)); exact BK108.out⟩, ⟨by repeat (first | (with_reducible first | exact HB.out | apply below_alloc | apply pw_below_drewN | apply below_drew1 | refine below_set ?_ GE108.out) | exact HB.out)⟩⟩
              · rw [if_neg c26] at H
                have c26b0 : decide (a1 ≤ 90) = false := decide_eq_false c26
                clear c26
                by_cases c27 : a1 = 37
                · rw [if_pos c27] at H
                  have c27b0 : (a1 == 37) = true := beq_iff_eq.mpr c27
                  have c27b1 : (a1 != 37) = false := bne_eq_false_iff_eq.mpr c27
                  clear c27
                  have H' := Aside0.mk H
                  clear H
                  go_wp2
                  go_meet
                  case rel => exact ⟨_, (true), (by first | rfl | (simp; done) | (simp [*]; done)), H', ⟨by have := HJ3.out; first | omega | exact Nat.le_refl _⟩, ⟨by (with_reducible repeat (first | refine blk_drewN ?_ _ | refine blk_drew ?_ | refine blk_alloc ?_ _)); exact BK108.out⟩, ⟨by repeat (first | (with_reducible first | exact HB.out | apply below_alloc | apply pw_below_drewN | apply below_drew1 | refine below_set ?_ GE108.out) | exact HB.out)⟩⟩
                · rw [if_neg c27] at H
                  have c27b0 : (a1 == 37) = false := beq_eq_false_iff_ne.mpr c27
                  have c27b1 : (a1 != 37) = true := bne_iff_ne.mpr c27
                  by_cases c28 : a1 = 39
                  · rw [if_pos c28] at H
                    have c28b0 : (a1 == 39) = true := beq_iff_eq.mpr c28
                    have c28b1 : (a1 != 39) = false := bne_eq_false_iff_eq.mpr c28
                    clear c28
                    have H' := Aside0.mk H
                    clear H
                    go_wp2
                    go_meet
                    case rel => exact ⟨_, (true), (by first | rfl | (simp; done) | (simp [*]; done)), H', ⟨by have := HJ3.out; first | omega | exact Nat.le_refl _⟩, ⟨by (with_reducible repeat (first | refine blk_drewN ?_ _ | refine blk_drew ?_ | refine blk_alloc ?_ _)); exact BK108.out⟩, ⟨by repeat (first | (with_reducible first | exact HB.out | apply below_alloc | apply pw_below_drewN | apply below_drew1 | refine below_set ?_ GE108.out) | exact HB.out)⟩⟩
                  · rw [if_neg c28] at H
                    have c28b0 : (a1 == 39) = false := beq_eq_false_iff_ne.mpr c28
                    have c28b1 : (a1 != 39) = true := bne_iff_ne.mpr c28
                    by_cases c29 : a1 = 95
                    · rw [if_pos c29] at H
                      have c29b0 : (a1 == 95) = true := beq_iff_eq.mpr c29
                      have c29b1 : (a1 != 95) = false := bne_eq_false_iff_eq.mpr c29
                      clear c29
                      have H' := Aside0.mk H
                      clear H
                      go_wp2
                      go_meet
                      case rel => exact ⟨_, (true), (by first | rfl | (simp; done) | (simp [*]; done)), H', ⟨by have := HJ3.out; first | omega | exact Nat.le_refl _⟩, ⟨by (with_reducible repeat (first | refine blk_drewN ?_ _ | refine blk_drew ?_ | refine blk_alloc ?_ _)); exact BK108.out⟩, ⟨by repeat (first | (with_reducible first | exact HB.out | apply below_alloc | apply pw_below_drewN | apply below_drew1 | refine below_set ?_ GE108.out) | exact HB.out)⟩⟩
                    · rw [if_neg c29] at H
                      have c29b0 : (a1 == 95) = false := beq_eq_false_iff_ne.mpr c29
                      have c29b1 : (a1 != 95) = true := bne_iff_ne.mpr c29
                      by_cases c30 : a1 = 91
                      · rw [if_pos c30] at H
                        have c30b0 : (a1 == 91) = true := beq_iff_eq.mpr c30
                        have c30b1 : (a1 != 91) = false := bne_eq_false_iff_eq.mpr c30
                        clear c30
                        have H' := Aside0.mk H
                        clear H
                        go_wp2
                        go_meet
                        case rel => exact ⟨_, (true), (by first | rfl | (simp; done) | (simp [*]; done)), H', ⟨by have := HJ3.out; first | omega | exact Nat.le_refl _⟩, ⟨by (with_reducible repeat (first | refine blk_drewN ?_ _ | refine blk_drew ?_ | refine blk_alloc ?_ _)); exact BK108.out⟩, ⟨by repeat (first | (with_reducible first | exact HB.out | apply below_alloc | apply pw_below_drewN | apply below_drew1 | refine below_set ?_ GE108.out) | exact HB.out)⟩⟩
                      · rw [if_neg c30] at H
                        have c30b0 : (a1 == 91) = false := beq_eq_false_iff_ne.mpr c30
                        have c30b1 : (a1 != 91) = true := bne_iff_ne.mpr c30
                        have H' := Aside0.mk H
                        clear H
                        go_wp2
                        go_meet
                        case rel => exact ⟨_, ((a1 == 93)), (by first | rfl | (simp; done) | (simp [*]; done)), H', ⟨by have := HJ3.out; first | omega | exact Nat.le_refl _⟩, ⟨by (with_reducible repeat (first | refine blk_drewN ?_ _ | refine blk_drew ?_ | refine blk_alloc ?_ _)); exact BK108.out⟩, ⟨by repeat (first | (with_reducible first | exact HB.out | apply below_alloc | apply pw_below_drewN | apply below_drew1 | refine below_set ?_ GE108.out) | exact HB.out)⟩⟩
            · rw [if_neg c25] at H
              have c25b0 : decide (65 ≤ a1) = false := decide_eq_false c25
              clear c25
              by_cases c31 : a1 = 37
              · rw [if_pos c31] at H
                have c31b0 : (a1 == 37) = true := beq_iff_eq.mpr c31
                have c31b1 : (a1 != 37) = false := bne_eq_false_iff_eq.mpr c31
                clear c31
                have H' := Aside0.mk H
                clear H
                go_wp2
                go_meet
                case rel => exact ⟨_, (true), (by first | rfl | (simp; done) | (simp [*]; done)), H', ⟨by have := HJ3.out; first | omega | exact Nat.le_refl _⟩, ⟨by (with_reducible repeat (first | refine blk_drewN ?_ _ | refine blk_drew ?_ | refine blk_alloc ?_ _)); exact BK108.out⟩, ⟨by repeat (first | (with_reducible first | exact HB.out | apply below_alloc | apply pw_below_drewN | apply below_drew1 | refine below_set ?_ GE108.out) | exact HB.out)⟩⟩
              · rw [if_neg c31] at H
                have c31b0 : (a1 == 37) = false := beq_eq_false_iff_ne.mpr c31
                have c31b1 : (a1 != 37) = true := bne_iff_ne.mpr c31
                by_cases c32 : a1 = 39
                · rw [if_pos c32] at H
                  have c32b0 : (a1 == 39) = true := beq_iff_eq.mpr c32
                  have c32b1 : (a1 != 39) = false := bne_eq_false_iff_eq.mpr c32
                  clear c32
                  have H' := Aside0.mk H
                  clear H
                  go_wp2
                  go_meet
                  case rel => exact ⟨_, (true), (by first | rfl | (simp; done) | (simp [*]; done)), H', ⟨by have := HJ3.out; first | omega | exact Nat.le_refl _⟩, ⟨by (with_reducible repeat (first | refine blk_drewN ?_ _ | refine blk_drew ?_ | refine blk_alloc ?_ _)); exact BK108.out⟩, ⟨by repeat (first | (with_reducible first | exact HB.out | apply below_alloc | apply pw_below_drewN | apply below_drew1 | refine below_set ?_ GE108.out) | exact HB.out)⟩⟩
                · rw [if_neg c32] at H
                  have c32b0 : (a1 == 39) = false := beq_eq_false_iff_ne.mpr c32
                  have c32b1 : (a1 != 39) = true := bne_iff_ne.mpr c32
                  by_cases c33 : a1 = 95
                  · rw [if_pos c33] at H
                    have c33b0 : (a1 == 95) = true := beq_iff_eq.mpr c33
                    have c33b1 : (a1 != 95) = false := bne_eq_false_iff_eq.mpr c33
                    clear c33
                    have H' := Aside0.mk H
                    clear H
                    go_wp2
                    go_meet
                    case rel => exact ⟨_, (true), (by first | rfl | (simp; done) | (simp [*]; done)), H', ⟨by have := HJ3.out; first | omega | exact Nat.le_refl _⟩, ⟨by (with_reducible repeat (first | refine blk_drewN ?_ _ | refine blk_drew ?_ | refine blk_alloc ?_ _)); exact BK108.out⟩, ⟨by repeat (first | (with_reducible first | exact HB.out | apply below_alloc | apply pw_below_drewN | apply below_drew1 | refine below_set ?_ GE108.out) | exact HB.out)⟩⟩
                  · rw [if_neg c33] at H
                    have c33b0 : (a1 == 95) = false := beq_eq_false_iff_ne.mpr c33
                    have c33b1 : (a1 != 95) = true := bne_iff_ne.mpr c33
                    by_cases c34 : a1 = 91
                    · rw [if_pos c34] at H
                      have c34b0 : (a1 == 91) = true := beq_iff_eq.mpr c34
                      have c34b1 : (a1 != 91) = false := bne_eq_false_iff_eq.mpr c34
                      clear c34
                      have H' := Aside0.mk H
                      clear H
                      go_wp2
                      go_meet
                      case rel => exact ⟨_, (true), (by first | rfl | (simp; done) | (simp [*]; done)), H', ⟨by have := HJ3.out; first | omega | exact Nat.le_refl _⟩, ⟨by (with_reducible repeat (first | refine blk_drewN ?_ _ | refine blk_drew ?_ | refine blk_alloc ?_ _)); exact BK108.out⟩, ⟨by repeat (first | (with_reducible first | exact HB.out | apply below_alloc | apply pw_below_drewN | apply below_drew1 | refine below_set ?_ GE108.out) | exact HB.out)⟩⟩
                    · rw [if_neg c34] at H
                      have c34b0 : (a1 == 91) = false := beq_eq_false_iff_ne.mpr c34
                      have c34b1 : (a1 != 91) = true := bne_iff_ne.mpr c34
                      have H' := Aside0.mk H
                      clear H
                      go_wp2
                      go_meet
                      case rel => exact ⟨_, ((a1 == 93)), (by first | rfl | (simp; done) | (simp [*]; done)), H', ⟨by have := HJ3.out; first | omega | exact Nat.le_refl _⟩, ⟨by (with_reducible repeat (first | refine blk_drewN ?_ _ | refine blk_drew ?_ | refine blk_alloc ?_ _)); exact BK108.out⟩, ⟨by repeat (first | (with_reducible first | exact HB.out | apply below_alloc | apply pw_below_drewN | apply below_drew1 | refine below_set ?_ GE108.out) | exact HB.out)⟩⟩
        case rest =>
          clear HC12
          try clear c1
          try clear c2
          try clear p2
          try clear c3
          try clear c8
          try clear c8b0
          try clear c8b1
          try clear c11
          try clear c13
          try clear c13b0
          try clear c14
          try clear c14b0
          try clear c15
          try clear c15b0
          try clear c16
          try clear c16b0
          try clear c17
          try clear c17b0
          try clear c17b1
          try clear c18
          try clear c18b0
          try clear c18b1
          try clear c19
          try clear c19b0
          try clear c19b1
          try clear c20
          try clear c20b0
          try clear c20b1
          try clear c21
          try clear c21b0
          try clear c21b1
          try clear c22
          try clear c22b0
          try clear c22b1
          try clear c23
          try clear c23b0
          try clear c23b1
          try clear c24
          try clear c24b0
          try clear c24b1
          try clear c25
          try clear c25b0
          try clear c26
          try clear c26b0
          try clear c27
          try clear c27b0
          try clear c27b1
          try clear c28
          try clear c28b0
          try clear c28b1
          try clear c29
          try clear c29b0
          try clear c29b1
          try clear c30
          try clear c30b0
          try clear c30b1
          try clear c31
          try clear c31b0
          try clear c31b1
          try clear c32
          try clear c32b0
          try clear c32b1
          try clear c33
          try clear c33b0
          try clear c33b1
          try clear c34
          try clear c34b0
          try clear c34b1
          try clear hcz10_0
          try clear hcz10_1
          try clear hcz10_2
          try clear hcz10_3
          try clear hcz10_4
          try clear hcz10_5
          try clear hcz7_0
          try clear hcz7_1
          try clear hcz7_2
          try clear hcz7_3
          try clear hcz7_4
          try clear hcz7_5
          try clear hcz9_0
          try clear hcz9_1
          try clear hcz9_2
          try clear hcz9_3
          try clear hcz9_4
          try clear hcz9_5
          try clear hfz10_0
          try clear hfz10_1
          try clear hfz10_2
          try clear hfz10_3
          try clear hfz10_4
          try clear hfz10_5
          try clear hfz7_0
          try clear hfz7_1
          try clear hfz7_2
          try clear hfz7_3
          try clear hfz7_4
          try clear hfz7_5
          try clear hfz9_0
          try clear hfz9_1
          try clear hfz9_2
          try clear hfz9_3
          try clear hfz9_4
          try clear hfz9_5
          try clear p2
          obtain ⟨kq, x48_11, rfl, HA, HJ11, BK108, HB⟩ := hcut
          cases kq with
          | zero => exact absurd HA.out (by simp [drachmref07_Kind.j1])
          | succ kj11 =>
            have H := HA.out
            clear HA
            simp only [drachmref07_Kind.j1] at H
            by_cases c35 : x48_11 = true
            · subst c35
              have H1 : (some 1) = some r := by rw [if_pos rfl] at H; exact H
              clear H
              have H := H1
              clear H1
              obtain rfl := Option.some.inj H
              go_wp2
              go_ret
              exact ⟨by first | rfl | (simp [errW_none, errW_some] <;> rfl) | (simp [*, errW_none, errW_some] <;> rfl), by repeat (first | (with_reducible first | exact HB.out | apply below_alloc | apply pw_below_drewN | apply below_drew1 | refine below_set ?_ GE108.out) | exact HB.out)⟩
            · replace c35 := Bool.eq_false_iff.mpr c35
              subst c35
              have H1 : (if a1 ≥ 48 then (drachmref07_Kind.j2 kj11 a1 (decide (a1 ≤ 57)) t102 t103 t104 t105 t106 t107) else (drachmref07_Kind.j2 kj11 a1 false t102 t103 t104 t105 t106 t107)) = some r := by rw [if_neg (show ¬ (false = true) by decide)] at H; exact H
              clear H
              have H := H1
              clear H1
              have HC36 := Aside0.mk H
              clear H
              go_upto_region 6 with (fail)
              go_cut [54] (fun v54 wc => ∃ (kq : Nat) (x54_35 : Bool), v54 = .bool x54_35 ∧ Aside0 (drachmref07_Kind.j2 kq a1 x54_35 t102 t103 t104 t105 t106 t107 = some r) ∧ Aside0 (kq ≤ kj11) ∧ Aside0 (wc.heap[gb108]? = some (.cells #[.bool t102, .int .u8 t103, .int .u8 t104, .int .u8 t105, .int .u8 t106, .int .u8 t107] 25 (0, 0))) ∧ Aside0 (Below w.heap.size w wc))
              case first =>
                have H := HC36.out
                clear HC36
                by_cases c37 : a1 ≥ 48
                · rw [if_pos c37] at H
                  have c37b0 : decide (48 ≤ a1) = true := decide_eq_true c37
                  clear c37
                  (first | rw [c37b0] | (simp only [i64_w, i32_w]; rw [c37b0]) | skip)
                  have H' := Aside0.mk H
                  clear H
                  go_wp2
                  go_meet
                  case rel => exact ⟨_, (decide (a1 ≤ 57)), (by first | rfl | (simp; done) | (simp [*]; done)), H', ⟨by have := HJ3.out; have := HJ11.out; first | omega | exact Nat.le_refl _⟩, ⟨by (with_reducible repeat (first | refine blk_drewN ?_ _ | refine blk_drew ?_ | refine blk_alloc ?_ _)); exact BK108.out⟩, ⟨by repeat (first | (with_reducible first | exact HB.out | apply below_alloc | apply pw_below_drewN | apply below_drew1 | refine below_set ?_ GE108.out) | exact HB.out)⟩⟩
                · rw [if_neg c37] at H
                  have c37b0 : decide (48 ≤ a1) = false := decide_eq_false c37
                  clear c37
                  (first | rw [c37b0] | (simp only [i64_w, i32_w]; rw [c37b0]) | skip)
                  have H' := Aside0.mk H
                  clear H
                  go_wp2
                  go_meet
                  case rel => exact ⟨_, (false), (by first | rfl | (simp; done) | (simp [*]; done)), H', ⟨by have := HJ3.out; have := HJ11.out; first | omega | exact Nat.le_refl _⟩, ⟨by (with_reducible repeat (first | refine blk_drewN ?_ _ | refine blk_drew ?_ | refine blk_alloc ?_ _)); exact BK108.out⟩, ⟨by repeat (first | (with_reducible first | exact HB.out | apply below_alloc | apply pw_below_drewN | apply below_drew1 | refine below_set ?_ GE108.out) | exact HB.out)⟩⟩
              case rest =>
                clear HC36
                try clear c1
                try clear c2
                try clear p2
                try clear c3
                try clear c8
                try clear c8b0
                try clear c8b1
                try clear c11
                try clear c13
                try clear c13b0
                try clear c14
                try clear c14b0
                try clear c15
                try clear c15b0
                try clear c16
                try clear c16b0
                try clear c17
                try clear c17b0
                try clear c17b1
                try clear c18
                try clear c18b0
                try clear c18b1
                try clear c19
                try clear c19b0
                try clear c19b1
                try clear c20
                try clear c20b0
                try clear c20b1
                try clear c21
                try clear c21b0
                try clear c21b1
                try clear c22
                try clear c22b0
                try clear c22b1
                try clear c23
                try clear c23b0
                try clear c23b1
                try clear c24
                try clear c24b0
                try clear c24b1
                try clear c25
                try clear c25b0
                try clear c26
                try clear c26b0
                try clear c27
                try clear c27b0
                try clear c27b1
                try clear c28
                try clear c28b0
                try clear c28b1
                try clear c29
                try clear c29b0
                try clear c29b1
                try clear c30
                try clear c30b0
                try clear c30b1
                try clear c31
                try clear c31b0
                try clear c31b1
                try clear c32
                try clear c32b0
                try clear c32b1
                try clear c33
                try clear c33b0
                try clear c33b1
                try clear c34
                try clear c34b0
                try clear c34b1
                try clear c35
                try clear c37
                try clear c37b0
                try clear hcz10_0
                try clear hcz10_1
                try clear hcz10_2
                try clear hcz10_3
                try clear hcz10_4
                try clear hcz10_5
                try clear hcz7_0
                try clear hcz7_1
                try clear hcz7_2
                try clear hcz7_3
                try clear hcz7_4
                try clear hcz7_5
                try clear hcz9_0
                try clear hcz9_1
                try clear hcz9_2
                try clear hcz9_3
                try clear hcz9_4
                try clear hcz9_5
                try clear hfz10_0
                try clear hfz10_1
                try clear hfz10_2
                try clear hfz10_3
                try clear hfz10_4
                try clear hfz10_5
                try clear hfz7_0
                try clear hfz7_1
                try clear hfz7_2
                try clear hfz7_3
                try clear hfz7_4
                try clear hfz7_5
                try clear hfz9_0
                try clear hfz9_1
                try clear hfz9_2
                try clear hfz9_3
                try clear hfz9_4
                try clear hfz9_5
                try clear p2
                obtain ⟨kq, x54_35, rfl, HA, HJ35, BK108, HB⟩ := hcut
                cases kq with
                | zero => exact absurd HA.out (by simp [drachmref07_Kind.j2])
                | succ kj35 =>
                  have H := HA.out
                  clear HA
                  simp only [drachmref07_Kind.j2] at H
                  by_cases c38 : x54_35 = true
                  · subst c38
                    have H1 : (some 2) = some r := by rw [if_pos rfl] at H; exact H
                    clear H
                    have H := H1
                    clear H1
                    obtain rfl := Option.some.inj H
                    go_wp2
                    go_ret
                    exact ⟨by first | rfl | (simp [errW_none, errW_some] <;> rfl) | (simp [*, errW_none, errW_some] <;> rfl), by repeat (first | (with_reducible first | exact HB.out | apply below_alloc | apply pw_below_drewN | apply below_drew1 | refine below_set ?_ GE108.out) | exact HB.out)⟩
                  · replace c38 := Bool.eq_false_iff.mpr c38
                    subst c38
                    have H1 : (if a1 = 43 then (drachmref07_Kind.j3 kj35 a1 (a1 == 43) t102 t103 t104 t105 t106 t107) else (drachmref07_Kind.j3 kj35 a1 (a1 == 45) t102 t103 t104 t105 t106 t107)) = some r := by rw [if_neg (show ¬ (false = true) by decide)] at H; exact H
                    clear H
                    have H := H1
                    clear H1
                    have HC39 := Aside0.mk H
                    clear H
                    go_upto_if 56 with (fail)
                    go_cut [56] (fun v56 wc => ∃ (kq : Nat) (x56_38 : Bool), v56 = .bool x56_38 ∧ Aside0 (drachmref07_Kind.j3 kq a1 x56_38 t102 t103 t104 t105 t106 t107 = some r) ∧ Aside0 (kq ≤ kj35) ∧ Aside0 (wc.heap[gb108]? = some (.cells #[.bool t102, .int .u8 t103, .int .u8 t104, .int .u8 t105, .int .u8 t106, .int .u8 t107] 25 (0, 0))) ∧ Aside0 (Below w.heap.size w wc))
                    case first =>
                      have H := HC39.out
                      clear HC39
                      by_cases c40 : a1 = 43
                      · rw [if_pos c40] at H
                        have c40b0 : (a1 == 43) = true := beq_iff_eq.mpr c40
                        have c40b1 : (a1 != 43) = false := bne_eq_false_iff_eq.mpr c40
                        clear c40
                        (first | rw [c40b0] | (simp only [i64_w, i32_w]; rw [c40b0]) | skip)
                        have H' := Aside0.mk H
                        clear H
                        go_wp2
                        go_meet
                        case rel => exact ⟨_, ((a1 == 43)), (by first | rfl | (simp; done) | (simp [*]; done)), H', ⟨by have := HJ3.out; have := HJ11.out; have := HJ35.out; first | omega | exact Nat.le_refl _⟩, ⟨by (with_reducible repeat (first | refine blk_drewN ?_ _ | refine blk_drew ?_ | refine blk_alloc ?_ _)); exact BK108.out⟩, ⟨by repeat (first | (with_reducible first | exact HB.out | apply below_alloc | apply pw_below_drewN | apply below_drew1 | refine below_set ?_ GE108.out) | exact HB.out)⟩⟩
                      · rw [if_neg c40] at H
                        have c40b0 : (a1 == 43) = false := beq_eq_false_iff_ne.mpr c40
                        have c40b1 : (a1 != 43) = true := bne_iff_ne.mpr c40
                        (first | rw [c40b0] | (simp only [i64_w, i32_w]; rw [c40b0]) | skip)
                        have H' := Aside0.mk H
                        clear H
                        go_wp2
                        go_meet
                        case rel => exact ⟨_, ((a1 == 45)), (by first | rfl | (simp; done) | (simp [*]; done)), H', ⟨by have := HJ3.out; have := HJ11.out; have := HJ35.out; first | omega | exact Nat.le_refl _⟩, ⟨by (with_reducible repeat (first | refine blk_drewN ?_ _ | refine blk_drew ?_ | refine blk_alloc ?_ _)); exact BK108.out⟩, ⟨by repeat (first | (with_reducible first | exact HB.out | apply below_alloc | apply pw_below_drewN | apply below_drew1 | refine below_set ?_ GE108.out) | exact HB.out)⟩⟩
                    case rest =>
                      clear HC39
                      try clear c1
                      try clear c2
                      try clear p2
                      try clear c3
                      try clear c4
                      try clear c8
                      try clear c8b0
                      try clear c8b1
                      try clear c11
                      try clear c13
                      try clear c13b0
                      try clear c14
                      try clear c14b0
                      try clear c15
                      try clear c15b0
                      try clear c16
                      try clear c16b0
                      try clear c17
                      try clear c17b0
                      try clear c17b1
                      try clear c18
                      try clear c18b0
                      try clear c18b1
                      try clear c19
                      try clear c19b0
                      try clear c19b1
                      try clear c20
                      try clear c20b0
                      try clear c20b1
                      try clear c21
                      try clear c21b0
                      try clear c21b1
                      try clear c22
                      try clear c22b0
                      try clear c22b1
                      try clear c23
                      try clear c23b0
                      try clear c23b1
                      try clear c24
                      try clear c24b0
                      try clear c24b1
                      try clear c25
                      try clear c25b0
                      try clear c26
                      try clear c26b0
                      try clear c27
                      try clear c27b0
                      try clear c27b1
                      try clear c28
                      try clear c28b0
                      try clear c28b1
                      try clear c29
                      try clear c29b0
                      try clear c29b1
                      try clear c30
                      try clear c30b0
                      try clear c30b1
                      try clear c31
                      try clear c31b0
                      try clear c31b1
                      try clear c32
                      try clear c32b0
                      try clear c32b1
                      try clear c33
                      try clear c33b0
                      try clear c33b1
                      try clear c34
                      try clear c34b0
                      try clear c34b1
                      try clear c35
                      try clear c37
                      try clear c37b0
                      try clear c38
                      try clear c40
                      try clear c40b0
                      try clear c40b1
                      try clear hcz10_0
                      try clear hcz10_1
                      try clear hcz10_2
                      try clear hcz10_3
                      try clear hcz10_4
                      try clear hcz10_5
                      try clear hcz7_0
                      try clear hcz7_1
                      try clear hcz7_2
                      try clear hcz7_3
                      try clear hcz7_4
                      try clear hcz7_5
                      try clear hcz9_0
                      try clear hcz9_1
                      try clear hcz9_2
                      try clear hcz9_3
                      try clear hcz9_4
                      try clear hcz9_5
                      try clear hfz10_0
                      try clear hfz10_1
                      try clear hfz10_2
                      try clear hfz10_3
                      try clear hfz10_4
                      try clear hfz10_5
                      try clear hfz7_0
                      try clear hfz7_1
                      try clear hfz7_2
                      try clear hfz7_3
                      try clear hfz7_4
                      try clear hfz7_5
                      try clear hfz9_0
                      try clear hfz9_1
                      try clear hfz9_2
                      try clear hfz9_3
                      try clear hfz9_4
                      try clear hfz9_5
                      try clear p2
                      obtain ⟨kq, x56_38, rfl, HA, HJ38, BK108, HB⟩ := hcut
                      cases kq with
                      | zero => exact absurd HA.out (by simp [drachmref07_Kind.j3])
                      | succ kj38 =>
                        have H := HA.out
                        clear HA
                        simp only [drachmref07_Kind.j3] at H
                        by_cases c41 : x56_38 = true
                        · subst c41
                          have H1 : (some 3) = some r := by rw [if_pos rfl] at H; exact H
                          clear H
                          have H := H1
                          clear H1
                          obtain rfl := Option.some.inj H
                          go_wp2
                          go_ret
                          exact ⟨by first | rfl | (simp [errW_none, errW_some] <;> rfl) | (simp [*, errW_none, errW_some] <;> rfl), by repeat (first | (with_reducible first | exact HB.out | apply below_alloc | apply pw_below_drewN | apply below_drew1 | refine below_set ?_ GE108.out) | exact HB.out)⟩
                        · replace c41 := Bool.eq_false_iff.mpr c41
                          subst c41
                          have H1 : (if a1 = 40 then (some 7) else (if a1 = 41 then (some 8) else (if a1 = t103 then (some 4) else (if a1 = t104 then (some 5) else (if a1 = t105 then (some 6) else (if a1 = t106 then (some 9) else (if a1 = t107 then (some 10) else (some 0)))))))) = some r := by rw [if_neg (show ¬ (false = true) by decide)] at H; exact H
                          clear H
                          have H := H1
                          clear H1
                          by_cases c42 : a1 = 40
                          · rw [if_pos c42] at H
                            have c42b0 : (a1 == 40) = true := beq_iff_eq.mpr c42
                            have c42b1 : (a1 != 40) = false := bne_eq_false_iff_eq.mpr c42
                            clear c42
                            obtain rfl := Option.some.inj H
                            go_wp2
                            go_ret
                            exact ⟨by first | rfl | (simp [errW_none, errW_some] <;> rfl) | (simp [*, errW_none, errW_some] <;> rfl), by repeat (first | (with_reducible first | exact HB.out | apply below_alloc | apply pw_below_drewN | apply below_drew1 | refine below_set ?_ GE108.out) | exact HB.out)⟩
                          · rw [if_neg c42] at H
                            have c42b0 : (a1 == 40) = false := beq_eq_false_iff_ne.mpr c42
                            have c42b1 : (a1 != 40) = true := bne_iff_ne.mpr c42
                            by_cases c43 : a1 = 41
                            · rw [if_pos c43] at H
                              have c43b0 : (a1 == 41) = true := beq_iff_eq.mpr c43
                              have c43b1 : (a1 != 41) = false := bne_eq_false_iff_eq.mpr c43
                              clear c43
                              obtain rfl := Option.some.inj H
                              go_wp2
                              go_ret
                              exact ⟨by first | rfl | (simp [errW_none, errW_some] <;> rfl) | (simp [*, errW_none, errW_some] <;> rfl), by repeat (first | (with_reducible first | exact HB.out | apply below_alloc | apply pw_below_drewN | apply below_drew1 | refine below_set ?_ GE108.out) | exact HB.out)⟩
                            · rw [if_neg c43] at H
                              have c43b0 : (a1 == 41) = false := beq_eq_false_iff_ne.mpr c43
                              have c43b1 : (a1 != 41) = true := bne_iff_ne.mpr c43
                              by_cases c44 : a1 = t103
                              · rw [if_pos c44] at H
                                have c44b0 : (a1 == t103) = true := beq_iff_eq.mpr c44
                                have c44b1 : (a1 != t103) = false := bne_eq_false_iff_eq.mpr c44
                                clear c44
                                obtain rfl := Option.some.inj H
                                have hcz45_0 : wc.cell? ⟨gb108, 0, none⟩ = some (.bool t102) := (blk_cell BK108.out 0).trans rfl
                                have hcz45_1 : wc.cell? ⟨gb108, 1, none⟩ = some (.int .u8 t103) := (blk_cell BK108.out 1).trans rfl
                                have hcz45_2 : wc.cell? ⟨gb108, 2, none⟩ = some (.int .u8 t104) := (blk_cell BK108.out 2).trans rfl
                                have hcz45_3 : wc.cell? ⟨gb108, 3, none⟩ = some (.int .u8 t105) := (blk_cell BK108.out 3).trans rfl
                                have hcz45_4 : wc.cell? ⟨gb108, 4, none⟩ = some (.int .u8 t106) := (blk_cell BK108.out 4).trans rfl
                                have hcz45_5 : wc.cell? ⟨gb108, 5, none⟩ = some (.int .u8 t107) := (blk_cell BK108.out 5).trans rfl
                                have hfz45_0 := blk_frozen BK108.out 0
                                have hfz45_1 := blk_frozen BK108.out 1
                                have hfz45_2 := blk_frozen BK108.out 2
                                have hfz45_3 := blk_frozen BK108.out 3
                                have hfz45_4 := blk_frozen BK108.out 4
                                have hfz45_5 := blk_frozen BK108.out 5
                                go_wp2
                                go_ret
                                exact ⟨by first | rfl | (simp [errW_none, errW_some] <;> rfl) | (simp [*, errW_none, errW_some] <;> rfl), by repeat (first | (with_reducible first | exact HB.out | apply below_alloc | apply pw_below_drewN | apply below_drew1 | refine below_set ?_ GE108.out) | exact HB.out)⟩
                              · rw [if_neg c44] at H
                                have c44b0 : (a1 == t103) = false := beq_eq_false_iff_ne.mpr c44
                                have c44b1 : (a1 != t103) = true := bne_iff_ne.mpr c44
                                by_cases c46 : a1 = t104
                                · rw [if_pos c46] at H
                                  have c46b0 : (a1 == t104) = true := beq_iff_eq.mpr c46
                                  have c46b1 : (a1 != t104) = false := bne_eq_false_iff_eq.mpr c46
                                  clear c46
                                  obtain rfl := Option.some.inj H
                                  have hcz47_0 : wc.cell? ⟨gb108, 0, none⟩ = some (.bool t102) := (blk_cell BK108.out 0).trans rfl
                                  have hcz47_1 : wc.cell? ⟨gb108, 1, none⟩ = some (.int .u8 t103) := (blk_cell BK108.out 1).trans rfl
                                  have hcz47_2 : wc.cell? ⟨gb108, 2, none⟩ = some (.int .u8 t104) := (blk_cell BK108.out 2).trans rfl
                                  have hcz47_3 : wc.cell? ⟨gb108, 3, none⟩ = some (.int .u8 t105) := (blk_cell BK108.out 3).trans rfl
                                  have hcz47_4 : wc.cell? ⟨gb108, 4, none⟩ = some (.int .u8 t106) := (blk_cell BK108.out 4).trans rfl
                                  have hcz47_5 : wc.cell? ⟨gb108, 5, none⟩ = some (.int .u8 t107) := (blk_cell BK108.out 5).trans rfl
                                  have hfz47_0 := blk_frozen BK108.out 0
                                  have hfz47_1 := blk_frozen BK108.out 1
                                  have hfz47_2 := blk_frozen BK108.out 2
                                  have hfz47_3 := blk_frozen BK108.out 3
                                  have hfz47_4 := blk_frozen BK108.out 4
                                  have hfz47_5 := blk_frozen BK108.out 5
                                  go_wp2
                                  go_ret
                                  exact ⟨by first | rfl | (simp [errW_none, errW_some] <;> rfl) | (simp [*, errW_none, errW_some] <;> rfl), by repeat (first | (with_reducible first | exact HB.out | apply below_alloc | apply pw_below_drewN | apply below_drew1 | refine below_set ?_ GE108.out) | exact HB.out)⟩
                                · rw [if_neg c46] at H
                                  have c46b0 : (a1 == t104) = false := beq_eq_false_iff_ne.mpr c46
                                  have c46b1 : (a1 != t104) = true := bne_iff_ne.mpr c46
                                  by_cases c48 : a1 = t105
                                  · rw [if_pos c48] at H
                                    have c48b0 : (a1 == t105) = true := beq_iff_eq.mpr c48
                                    have c48b1 : (a1 != t105) = false := bne_eq_false_iff_eq.mpr c48
                                    clear c48
                                    obtain rfl := Option.some.inj H
                                    have hcz49_0 : wc.cell? ⟨gb108, 0, none⟩ = some (.bool t102) := (blk_cell BK108.out 0).trans rfl
                                    have hcz49_1 : wc.cell? ⟨gb108, 1, none⟩ = some (.int .u8 t103) := (blk_cell BK108.out 1).trans rfl
                                    have hcz49_2 : wc.cell? ⟨gb108, 2, none⟩ = some (.int .u8 t104) := (blk_cell BK108.out 2).trans rfl
                                    have hcz49_3 : wc.cell? ⟨gb108, 3, none⟩ = some (.int .u8 t105) := (blk_cell BK108.out 3).trans rfl
                                    have hcz49_4 : wc.cell? ⟨gb108, 4, none⟩ = some (.int .u8 t106) := (blk_cell BK108.out 4).trans rfl
                                    have hcz49_5 : wc.cell? ⟨gb108, 5, none⟩ = some (.int .u8 t107) := (blk_cell BK108.out 5).trans rfl
                                    have hfz49_0 := blk_frozen BK108.out 0
                                    have hfz49_1 := blk_frozen BK108.out 1
                                    have hfz49_2 := blk_frozen BK108.out 2
                                    have hfz49_3 := blk_frozen BK108.out 3
                                    have hfz49_4 := blk_frozen BK108.out 4
                                    have hfz49_5 := blk_frozen BK108.out 5
                                    go_wp2
                                    go_ret
                                    exact ⟨by first | rfl | (simp [errW_none, errW_some] <;> rfl) | (simp [*, errW_none, errW_some] <;> rfl), by repeat (first | (with_reducible first | exact HB.out | apply below_alloc | apply pw_below_drewN | apply below_drew1 | refine below_set ?_ GE108.out) | exact HB.out)⟩
                                  · rw [if_neg c48] at H
                                    have c48b0 : (a1 == t105) = false := beq_eq_false_iff_ne.mpr c48
                                    have c48b1 : (a1 != t105) = true := bne_iff_ne.mpr c48
                                    by_cases c50 : a1 = t106
                                    · rw [if_pos c50] at H
                                      have c50b0 : (a1 == t106) = true := beq_iff_eq.mpr c50
                                      have c50b1 : (a1 != t106) = false := bne_eq_false_iff_eq.mpr c50
                                      clear c50
                                      obtain rfl := Option.some.inj H
                                      have hcz51_0 : wc.cell? ⟨gb108, 0, none⟩ = some (.bool t102) := (blk_cell BK108.out 0).trans rfl
                                      have hcz51_1 : wc.cell? ⟨gb108, 1, none⟩ = some (.int .u8 t103) := (blk_cell BK108.out 1).trans rfl
                                      have hcz51_2 : wc.cell? ⟨gb108, 2, none⟩ = some (.int .u8 t104) := (blk_cell BK108.out 2).trans rfl
                                      have hcz51_3 : wc.cell? ⟨gb108, 3, none⟩ = some (.int .u8 t105) := (blk_cell BK108.out 3).trans rfl
                                      have hcz51_4 : wc.cell? ⟨gb108, 4, none⟩ = some (.int .u8 t106) := (blk_cell BK108.out 4).trans rfl
                                      have hcz51_5 : wc.cell? ⟨gb108, 5, none⟩ = some (.int .u8 t107) := (blk_cell BK108.out 5).trans rfl
                                      have hfz51_0 := blk_frozen BK108.out 0
                                      have hfz51_1 := blk_frozen BK108.out 1
                                      have hfz51_2 := blk_frozen BK108.out 2
                                      have hfz51_3 := blk_frozen BK108.out 3
                                      have hfz51_4 := blk_frozen BK108.out 4
                                      have hfz51_5 := blk_frozen BK108.out 5
                                      go_wp2
                                      go_ret
                                      exact ⟨by first | rfl | (simp [errW_none, errW_some] <;> rfl) | (simp [*, errW_none, errW_some] <;> rfl), by repeat (first | (with_reducible first | exact HB.out | apply below_alloc | apply pw_below_drewN | apply below_drew1 | refine below_set ?_ GE108.out) | exact HB.out)⟩
                                    · rw [if_neg c50] at H
                                      have c50b0 : (a1 == t106) = false := beq_eq_false_iff_ne.mpr c50
                                      have c50b1 : (a1 != t106) = true := bne_iff_ne.mpr c50
                                      by_cases c52 : a1 = t107
                                      · rw [if_pos c52] at H
                                        have c52b0 : (a1 == t107) = true := beq_iff_eq.mpr c52
                                        have c52b1 : (a1 != t107) = false := bne_eq_false_iff_eq.mpr c52
                                        clear c52
                                        obtain rfl := Option.some.inj H
                                        have hcz53_0 : wc.cell? ⟨gb108, 0, none⟩ = some (.bool t102) := (blk_cell BK108.out 0).trans rfl
                                        have hcz53_1 : wc.cell? ⟨gb108, 1, none⟩ = some (.int .u8 t103) := (blk_cell BK108.out 1).trans rfl
                                        have hcz53_2 : wc.cell? ⟨gb108, 2, none⟩ = some (.int .u8 t104) := (blk_cell BK108.out 2).trans rfl
                                        have hcz53_3 : wc.cell? ⟨gb108, 3, none⟩ = some (.int .u8 t105) := (blk_cell BK108.out 3).trans rfl
                                        have hcz53_4 : wc.cell? ⟨gb108, 4, none⟩ = some (.int .u8 t106) := (blk_cell BK108.out 4).trans rfl
                                        have hcz53_5 : wc.cell? ⟨gb108, 5, none⟩ = some (.int .u8 t107) := (blk_cell BK108.out 5).trans rfl
                                        have hfz53_0 := blk_frozen BK108.out 0
                                        have hfz53_1 := blk_frozen BK108.out 1
                                        have hfz53_2 := blk_frozen BK108.out 2
                                        have hfz53_3 := blk_frozen BK108.out 3
                                        have hfz53_4 := blk_frozen BK108.out 4
                                        have hfz53_5 := blk_frozen BK108.out 5
                                        go_wp2
                                        go_ret
                                        exact ⟨by first | rfl | (simp [errW_none, errW_some] <;> rfl) | (simp [*, errW_none, errW_some] <;> rfl), by repeat (first | (with_reducible first | exact HB.out | apply below_alloc | apply pw_below_drewN | apply below_drew1 | refine below_set ?_ GE108.out) | exact HB.out)⟩
                                      · rw [if_neg c52] at H
                                        have c52b0 : (a1 == t107) = false := beq_eq_false_iff_ne.mpr c52
                                        have c52b1 : (a1 != t107) = true := bne_iff_ne.mpr c52
                                        obtain rfl := Option.some.inj H
                                        have hcz54_0 : wc.cell? ⟨gb108, 0, none⟩ = some (.bool t102) := (blk_cell BK108.out 0).trans rfl
                                        have hcz54_1 : wc.cell? ⟨gb108, 1, none⟩ = some (.int .u8 t103) := (blk_cell BK108.out 1).trans rfl
                                        have hcz54_2 : wc.cell? ⟨gb108, 2, none⟩ = some (.int .u8 t104) := (blk_cell BK108.out 2).trans rfl
                                        have hcz54_3 : wc.cell? ⟨gb108, 3, none⟩ = some (.int .u8 t105) := (blk_cell BK108.out 3).trans rfl
                                        have hcz54_4 : wc.cell? ⟨gb108, 4, none⟩ = some (.int .u8 t106) := (blk_cell BK108.out 4).trans rfl
                                        have hcz54_5 : wc.cell? ⟨gb108, 5, none⟩ = some (.int .u8 t107) := (blk_cell BK108.out 5).trans rfl
                                        have hfz54_0 := blk_frozen BK108.out 0
                                        have hfz54_1 := blk_frozen BK108.out 1
                                        have hfz54_2 := blk_frozen BK108.out 2
                                        have hfz54_3 := blk_frozen BK108.out 3
                                        have hfz54_4 := blk_frozen BK108.out 4
                                        have hfz54_5 := blk_frozen BK108.out 5
                                        go_wp2
                                        go_ret
                                        exact ⟨by first | rfl | (simp [errW_none, errW_some] <;> rfl) | (simp [*, errW_none, errW_some] <;> rfl), by repeat (first | (with_reducible first | exact HB.out | apply below_alloc | apply pw_below_drewN | apply below_drew1 | refine below_set ?_ GE108.out) | exact HB.out)⟩

end Go.Proofs.YtgcaelopcdpkgaaDoor.PBase
