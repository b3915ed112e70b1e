/- Printed by a program of this session (wip/tools/prt.py) out of the translation: plain functions, and that the calls come to just them. No conditions beyond those that stand in each theorem. -/
import Derived.Test.YtnndaackjgnhhaaDoorPBx0
import Derived.Test.YtnndaackjgnhhaaDoorPBx2
import Derived.Test.YtnndaackjgnhhaaDoorPBx4
namespace Go.Proofs.YtnndaackjgnhhaaDoor.PB
open Go.Proofs.YtnndaackjgnhhaaDoor.Sq Go.RowKit Go.Proofs.YtnndaackjgnhhaaDoorW.PrintWords Go.Proofs.YtnndaackjgnhhaaDoorW.PrintLast Go.Proofs.YtnndaackjgnhhaaDoorW.PrintMore
attribute [local go_sem] max2_int min2_int max_two min_two max_three min_three max_four min_four   -- for this text's walks alone
set_option linter.unusedVariables false
set_option linter.unusedSimpArgs false

/-! ### drachmref02_Pow: function 37 -/
mutual
def drachmref02_Pow.j0 : Nat → Int → Bool → Int → Int → Int → Option (Int × Int × Int × Int)
 | 0, _, _, _, _, _ => none
 | k + 1, x1, x23, x230000, x230001, x230002 => if x23 = true then (some (0, 0, 0, 1)) else (if x230000 = 0 then (drachmref02_Pow.j1 k x1 (decide (x1 < 0)) x230000 x230001 x230002) else (drachmref02_Pow.j1 k x1 false x230000 x230001 x230002))
def drachmref02_Pow.j1 : Nat → Int → Bool → Int → Int → Int → Option (Int × Int × Int × Int)
 | 0, _, _, _, _, _ => none
 | k + 1, x1, x31, x230000, x230001, x230002 => if x31 = true then (some (0, 0, 0, 11)) else (if x1 = 0 then (some (1, 1, 0, 0)) else (if x230000 = 0 then (some (x230000, x230001, x230002, 0)) else ((drachmref02_of.f k x230000 x230001).bind fun bt232 => (if x1 < 0 then ((drachmref02_turned.f bt232.1 bt232.2.1 bt232.2.2.1 bt232.2.2.2.1 bt232.2.2.2.2).bind fun bt238 => (drachmref02_Pow.j2 k (wrap64 (-x1)) (wrap64 (x230002 * x1)) bt238.1 bt238.2.1 bt238.2.2.1 bt238.2.2.2.1 bt238.2.2.2.2)) else (drachmref02_Pow.j2 k x1 (wrap64 (x230002 * x1)) bt232.1 bt232.2.1 bt232.2.2.1 bt232.2.2.2.1 bt232.2.2.2.2)))))
def drachmref02_Pow.j2 : Nat → Int → Int → Int → Int → Int → Int → Int → Option (Int × Int × Int × Int)
 | 0, _, _, _, _, _, _, _ => none
 | k + 1, x1, x7, x238000, x238001, x238002, x238003, x238004 => drachmref02_Pow.l0 k x1 x7 0 x238000 x238001 x238002 x238003 x238004 1 1 1 (wrap64 (x238003 * x1)) (wrap64 (x238004 * x1))
def drachmref02_Pow.l0 : Nat → Int → Int → Int → Int → Int → Int → Int → Int → Int → Int → Int → Int → Int → Option (Int × Int × Int × Int)
 | 0, _, _, _, _, _, _, _, _, _, _, _, _, _ => none
 | k + 1, x1, x7, x9, x238000, x238001, x238002, x238003, x238004, x244000, x244001, x244002, x244003, x244004 => if x9 < x1 then ((drachmref01_Mul.f k x244001 x238001).bind fun bt248 => ((drachmref01_Mul.f k x244002 x238002).bind fun bt251 => (if bt248.2 = true then (if bt251.2 = true then (drachmref02_Pow.l0 k x1 x7 (wrap64 (x9 + 1)) x238000 x238001 x238002 x238003 x238004 (wrap64 (x244000 * x238000)) bt248.1 bt251.1 x244003 x244004) else (some (0, 0, 0, 10))) else (some (0, 0, 0, 10))))) else ((drachmref02_form.f k x244000 x244001 x244002 x244003 x244004 x7).bind fun bt244 => (some (bt244.1, bt244.2.1, bt244.2.2.1, bt244.2.2.2)))
end
def drachmref02_Pow.f (k : Nat) (a0_0 : Int) (a0_1 : Int) (a0_2 : Int) (a1 : Int) : Option (Int × Int × Int × Int) := (drachmref02_Right.f k a0_0 a0_1 a0_2).bind fun t231 => (if t231 = true then (if a1 < (-99) then (drachmref02_Pow.j0 k a1 true a0_0 a0_1 a0_2) else (drachmref02_Pow.j0 k a1 (decide (a1 > 99)) a0_0 a0_1 a0_2)) else (drachmref02_Pow.j0 k a1 true a0_0 a0_1 a0_2))
theorem drachmref02_Pow.mono_l : ∀ k, (∀ y0 y1 y2 y3 y4, LeO (drachmref02_Pow.j0 k y0 y1 y2 y3 y4) (drachmref02_Pow.j0 (k + 1) y0 y1 y2 y3 y4)) ∧ (∀ y0 y1 y2 y3 y4, LeO (drachmref02_Pow.j1 k y0 y1 y2 y3 y4) (drachmref02_Pow.j1 (k + 1) y0 y1 y2 y3 y4)) ∧ (∀ y0 y1 y2 y3 y4 y5 y6, LeO (drachmref02_Pow.j2 k y0 y1 y2 y3 y4 y5 y6) (drachmref02_Pow.j2 (k + 1) y0 y1 y2 y3 y4 y5 y6)) ∧ (∀ y0 y1 y2 y3 y4 y5 y6 y7 y8 y9 y10 y11 y12, LeO (drachmref02_Pow.l0 k y0 y1 y2 y3 y4 y5 y6 y7 y8 y9 y10 y11 y12) (drachmref02_Pow.l0 (k + 1) y0 y1 y2 y3 y4 y5 y6 y7 y8 y9 y10 y11 y12))
 | 0 => ⟨fun _ _ _ _ _ r h => by simp [drachmref02_Pow.j0] at h, fun _ _ _ _ _ r h => by simp [drachmref02_Pow.j1] at h, fun _ _ _ _ _ _ _ r h => by simp [drachmref02_Pow.j2] at h, fun _ _ _ _ _ _ _ _ _ _ _ _ _ r h => by simp [drachmref02_Pow.l0] at h⟩
 | k + 1 => by
  obtain ⟨ih0, ih1, ih2, ih3⟩ := drachmref02_Pow.mono_l k
  refine ⟨?_, ?_, ?_, ?_⟩
  ·intro y0 y1 y2 y3 y4
   unfold drachmref02_Pow.j0
   repeat' first
   | (with_reducible exact ih0 _ _ _ _ _)
   | (with_reducible exact ih1 _ _ _ _ _)
   | (with_reducible exact ih2 _ _ _ _ _ _ _)
   | (with_reducible exact ih3 _ _ _ _ _ _ _ _ _ _ _ _ _)
   | (with_reducible exact drachmref01_Mul.mono _ _ _)
   | (with_reducible exact drachmref02_Right.mono _ _ _ _)
   | (with_reducible exact drachmref02_form.mono _ _ _ _ _ _ _)
   | (with_reducible exact drachmref02_of.mono _ _ _)
   | (with_reducible exact LeO.refl _)
   | (with_reducible exact LeO.none _)
   | (with_reducible refine LeO.ite ?_ ?_)
   | (with_reducible refine LeO.bind ?_ (fun _ => ?_))
   | exact ih0 _ _ _ _ _
   | exact ih1 _ _ _ _ _
   | exact ih2 _ _ _ _ _ _ _
   | exact ih3 _ _ _ _ _ _ _ _ _ _ _ _ _
   | exact drachmref01_Mul.mono _ _ _
   | exact drachmref02_Right.mono _ _ _ _
   | exact drachmref02_form.mono _ _ _ _ _ _ _
   | exact drachmref02_of.mono _ _ _
   | exact LeO.none _
   | refine LeO.ite ?_ ?_
   | refine LeO.bind ?_ (fun _ => ?_)
  ·intro y0 y1 y2 y3 y4
   unfold drachmref02_Pow.j1
   repeat' first
   | (with_reducible exact ih0 _ _ _ _ _)
   | (with_reducible exact ih1 _ _ _ _ _)
   | (with_reducible exact ih2 _ _ _ _ _ _ _)
   | (with_reducible exact ih3 _ _ _ _ _ _ _ _ _ _ _ _ _)
   | (with_reducible exact drachmref01_Mul.mono _ _ _)
   | (with_reducible exact drachmref02_Right.mono _ _ _ _)
   | (with_reducible exact drachmref02_form.mono _ _ _ _ _ _ _)
   | (with_reducible exact drachmref02_of.mono _ _ _)
   | (with_reducible exact LeO.refl _)
   | (with_reducible exact LeO.none _)
   | (with_reducible refine LeO.ite ?_ ?_)
   | (with_reducible refine LeO.bind ?_ (fun _ => ?_))
   | exact ih0 _ _ _ _ _
   | exact ih1 _ _ _ _ _
   | exact ih2 _ _ _ _ _ _ _
   | exact ih3 _ _ _ _ _ _ _ _ _ _ _ _ _
   | exact drachmref01_Mul.mono _ _ _
   | exact drachmref02_Right.mono _ _ _ _
   | exact drachmref02_form.mono _ _ _ _ _ _ _
   | exact drachmref02_of.mono _ _ _
   | exact LeO.none _
   | refine LeO.ite ?_ ?_
   | refine LeO.bind ?_ (fun _ => ?_)
  ·intro y0 y1 y2 y3 y4 y5 y6
   unfold drachmref02_Pow.j2
   repeat' first
   | (with_reducible exact ih0 _ _ _ _ _)
   | (with_reducible exact ih1 _ _ _ _ _)
   | (with_reducible exact ih2 _ _ _ _ _ _ _)
   | (with_reducible exact ih3 _ _ _ _ _ _ _ _ _ _ _ _ _)
   | (with_reducible exact drachmref01_Mul.mono _ _ _)
   | (with_reducible exact drachmref02_Right.mono _ _ _ _)
   | (with_reducible exact drachmref02_form.mono _ _ _ _ _ _ _)
   | (with_reducible exact drachmref02_of.mono _ _ _)
   | (with_reducible exact LeO.refl _)
   | (with_reducible exact LeO.none _)
   | (with_reducible refine LeO.ite ?_ ?_)
   | (with_reducible refine LeO.bind ?_ (fun _ => ?_))
   | exact ih0 _ _ _ _ _
   | exact ih1 _ _ _ _ _
   | exact ih2 _ _ _ _ _ _ _
   | exact ih3 _ _ _ _ _ _ _ _ _ _ _ _ _
   | exact drachmref01_Mul.mono _ _ _
   | exact drachmref02_Right.mono _ _ _ _
   | exact drachmref02_form.mono _ _ _ _ _ _ _
   | exact drachmref02_of.mono _ _ _
   | exact LeO.none _
   | refine LeO.ite ?_ ?_
   | refine LeO.bind ?_ (fun _ => ?_)
  ·intro y0 y1 y2 y3 y4 y5 y6 y7 y8 y9 y10 y11 y12
   unfold drachmref02_Pow.l0
   repeat' first
   | (with_reducible exact ih0 _ _ _ _ _)
   | (with_reducible exact ih1 _ _ _ _ _)
   | (with_reducible exact ih2 _ _ _ _ _ _ _)
   | (with_reducible exact ih3 _ _ _ _ _ _ _ _ _ _ _ _ _)
   | (with_reducible exact drachmref01_Mul.mono _ _ _)
   | (with_reducible exact drachmref02_Right.mono _ _ _ _)
   | (with_reducible exact drachmref02_form.mono _ _ _ _ _ _ _)
   | (with_reducible exact drachmref02_of.mono _ _ _)
   | (with_reducible exact LeO.refl _)
   | (with_reducible exact LeO.none _)
   | (with_reducible refine LeO.ite ?_ ?_)
   | (with_reducible refine LeO.bind ?_ (fun _ => ?_))
   | exact ih0 _ _ _ _ _
   | exact ih1 _ _ _ _ _
   | exact ih2 _ _ _ _ _ _ _
   | exact ih3 _ _ _ _ _ _ _ _ _ _ _ _ _
   | exact drachmref01_Mul.mono _ _ _
   | exact drachmref02_Right.mono _ _ _ _
   | exact drachmref02_form.mono _ _ _ _ _ _ _
   | exact drachmref02_of.mono _ _ _
   | exact LeO.none _
   | refine LeO.ite ?_ ?_
   | refine LeO.bind ?_ (fun _ => ?_)
theorem drachmref02_Pow.mono : ∀ a0 a1 a2 a3 k, LeO (drachmref02_Pow.f k a0 a1 a2 a3) (drachmref02_Pow.f (k + 1) a0 a1 a2 a3) := by
 intro a0 a1 a2 a3 k
 obtain ⟨ih0, ih1, ih2, ih3⟩ := drachmref02_Pow.mono_l k
 unfold drachmref02_Pow.f
 repeat' first
   | (with_reducible exact ih0 _ _ _ _ _)
   | (with_reducible exact ih1 _ _ _ _ _)
   | (with_reducible exact ih2 _ _ _ _ _ _ _)
   | (with_reducible exact ih3 _ _ _ _ _ _ _ _ _ _ _ _ _)
   | (with_reducible exact drachmref01_Mul.mono _ _ _)
   | (with_reducible exact drachmref02_Right.mono _ _ _ _)
   | (with_reducible exact drachmref02_form.mono _ _ _ _ _ _ _)
   | (with_reducible exact drachmref02_of.mono _ _ _)
   | (with_reducible exact LeO.refl _)
   | (with_reducible exact LeO.none _)
   | (with_reducible refine LeO.ite ?_ ?_)
   | (with_reducible refine LeO.bind ?_ (fun _ => ?_))
   | exact ih0 _ _ _ _ _
   | exact ih1 _ _ _ _ _
   | exact ih2 _ _ _ _ _ _ _
   | exact ih3 _ _ _ _ _ _ _ _ _ _ _ _ _
   | exact drachmref01_Mul.mono _ _ _
   | exact drachmref02_Right.mono _ _ _ _
   | exact drachmref02_form.mono _ _ _ _ _ _ _
   | exact drachmref02_of.mono _ _ _
   | exact LeO.none _
   | refine LeO.ite ?_ ?_
   | refine LeO.bind ?_ (fun _ => ?_)
set_option maxHeartbeats 8000000 in
set_option maxRecDepth 100000 in
theorem drachmref02_Pow.calls (k : Nat) (a0_0 : Int) (a0_1 : Int) (a0_2 : Int) (a1 : Int) (r1 : Int) (r2 : Int) (r3 : Int) (r4 : Int) (w : World) (h : drachmref02_Pow.f k a0_0 a0_1 a0_2 a1 = some (r1, r2, r3, r4)) :
  Calls Tryd.prog 37 #[.agg #[.int .i64 a0_0, .int .i64 a0_1, .int .i64 a0_2], .int .i64 a1] w fun e w' => e = .returned (.agg #[.int .i64 r1, .int .i64 r2, .int .i64 r3, .int .i64 r4]) ∧ Below w.heap.size w w' := by
 have hu24 := Tryd.underlying24
 have hu30 := Tryd.underlying30
 have hu60 := Tryd.underlying60
 have hu89 := Tryd.underlying89
 have HB := Aside0.mk (Below.refl w.heap.size w)
 have H : ((drachmref02_Right.f k a0_0 a0_1 a0_2).bind fun t231 => (if t231 = true then (if a1 < (-99) then (drachmref02_Pow.j0 k a1 true a0_0 a0_1 a0_2) else (drachmref02_Pow.j0 k a1 (decide (a1 > 99)) a0_0 a0_1 a0_2)) else (drachmref02_Pow.j0 k a1 true a0_0 a0_1 a0_2))) = some (r1, r2, r3, r4) := h
 clear h
 replace H := Option.bind_eq_some_iff.mp H
 obtain ⟨t231, A30, H⟩ := H
 replace H : (if t231 = true then (if a1 < (-99) then (drachmref02_Pow.j0 k a1 true a0_0 a0_1 a0_2) else (drachmref02_Pow.j0 k a1 (decide (a1 > 99)) a0_0 a0_1 a0_2)) else (drachmref02_Pow.j0 k a1 true a0_0 a0_1 a0_2)) = some (r1, r2, r3, r4) := H
 have A3 := Aside0.mk A30
 clear A30
 have HC4 := Aside0.mk H
 clear H
 go_enter Tryd.func37, Tryd.ntmps37
 go_upto_region 2 with (first | ((with_reducible refine gate_dst (N := 2) rfl ?_); refine box_event ?hg (N := 2) ?hd (cs := #[.int .i64 a0_0, .int .i64 a0_1, .int .i64 a0_2]) (t := 24) ?hr ?_; (case hd => rfl); (case hg => rfl); (case hr => first | (go_simp; done) | (go_simp; rfl)); intro gb229 hg w5 hbox hb; have n0_ := Aside0.mk (below_step (bl HB.out) hb); have n1_ := Aside0.mk (hbox); have n2_ := Aside0.mk ((by rw [hg]; exact (below_size (bl HB.out)) : w.heap.size ≤ gb229)); have n3_ := Aside0.mk ((by rw [hg]; exact (below_size (bl HB.out)) : w.heap.size ≤ gb229)); clear HB; have HB := n0_; have BK229 := n1_; have GW229 := n2_; have GE229 := n3_; clear n0_ n1_ n2_ n3_; clear hb hbox hg) | ((with_reducible refine gate_dst (N := 4) rfl ?_); refine box_event ?hg (N := 4) ?hd (cs := #[.int .i64 0, .int .i64 0, .int .i64 0, .int .i64 0]) (t := 30) ?hr ?_; (case hd => rfl); (case hg => rfl); (case hr => first | (go_simp; done) | (go_simp; rfl)); intro gb230 hg w6 hbox hb; have n0_ := Aside0.mk (blk_below (kp BK229.out) hb); have n1_ := Aside0.mk (below_step (bl HB.out) hb); have n2_ := Aside0.mk (hbox); have n3_ := Aside0.mk ((by rw [hg]; exact (below_size (bl HB.out)) : w.heap.size ≤ gb230)); have n4_ := Aside0.mk ((by rw [hg]; exact (below_size (bl HB.out)) : w.heap.size ≤ gb230)); have n5_ := Aside0.mk ((by rw [hg]; exact Nat.ne_of_lt (blk_lt (kp BK229.out)) : gb229 ≠ gb230)); have n6_ := Aside0.mk ((by rw [hg]; exact Nat.ne_of_gt (blk_lt (kp BK229.out)) : gb230 ≠ gb229)); clear BK229; clear HB; have BK229 := n0_; have HB := n1_; have BK230 := n2_; have GW230 := n3_; have GE230 := n4_; have NB229_230 := n5_; have NB230_229 := n6_; clear n0_ n1_ n2_ n3_ n4_ n5_ n6_; clear hb hbox hg; have hnb7 := NB229_230.out; have hnc7 := NB230_229.out; obtain ⟨hcz8_0, hcz8_1, hcz8_2⟩ := hc3 BK229.out; obtain ⟨hfz8_0, hfz8_1, hfz8_2⟩ := hf3 BK229.out) | ((with_reducible refine gate_callee (f := 14) rfl ?_); refine goesL_ (some 13) rfl rfl Tryd.func14 (by kernel_rfl) rfl #[.agg #[.int .i64 a0_0, .int .i64 a0_1, .int .i64 a0_2]] rfl (by (try simp only [List.map_toArray, List.map_cons, List.map_nil]); first | done | rfl | (simp only [List.length_drop, List.length_take]; rfl)) ?_; (with_reducible refine (drachmref02_Right.calls k a0_0 a0_1 a0_2 t231 _ A3.out).mono ?_); rintro e w9 ⟨rfl, hb⟩; refine ⟨_, rfl, ?_⟩; replace BK229 := Aside0.mk (blk_below (kp BK229.out) hb); replace BK230 := Aside0.mk (blk_below (kp BK230.out) hb); replace HB := Aside0.mk (below_step (bl HB.out) hb); (try clear hb); (try clear hb2); (try clear hk); (try clear hi)))
 (try simp only [Act.put, List.setIfInBounds_toArray, List.set_cons_zero, List.set_cons_succ])
 go_cut [23] (fun v23 wc => ∃ (kq : Nat) (x23_3 : Bool), v23 = .bool x23_3 ∧ Aside0 (drachmref02_Pow.j0 kq a1 x23_3 a0_0 a0_1 a0_2 = some (r1, r2, r3, r4)) ∧ Aside0 (kq ≤ k) ∧ Aside0 (wc.heap[gb229]? = some (.cells #[.int .i64 a0_0, .int .i64 a0_1, .int .i64 a0_2] 24 (0, 0))) ∧ Aside0 (wc.heap[gb230]? = some (.cells #[.int .i64 0, .int .i64 0, .int .i64 0, .int .i64 0] 30 (0, 0))) ∧ Aside0 (Below w.heap.size w wc))
 case first =>
  have H := HC4.out
  clear HC4
  by_cases c10 : t231 = true
  ·subst c10
   have H1 : (if a1 < (-99) then (drachmref02_Pow.j0 k a1 true a0_0 a0_1 a0_2) else (drachmref02_Pow.j0 k a1 (decide (a1 > 99)) a0_0 a0_1 a0_2)) = some (r1, r2, r3, r4) := by rw [if_pos rfl] at H; exact H
   clear H
   have H := H1
   clear H1
   by_cases c11 : a1 < (-99)
   ·rw [if_pos c11] at H
    have c11b0 : decide (a1 < (-99)) = true := decide_eq_true c11
    clear c11
    (first | rw [c11b0] | (simp only [i64_w, i32_w]; rw [c11b0]) | skip)
    have H' := Aside0.mk H
    clear H
    go_wp2
    go_meet
    case rel => exact ⟨_, (true), (by first | rfl | (simp; done) | (simp [*]; done)), H', ⟨by first | omega | exact Nat.le_refl _⟩, ⟨kp BK229.out⟩, ⟨kp BK230.out⟩, ⟨bl HB.out⟩⟩
   ·rw [if_neg c11] at H
    have c11b0 : decide (a1 < (-99)) = false := decide_eq_false c11
    clear c11
    (first | rw [c11b0] | (simp only [i64_w, i32_w]; rw [c11b0]) | skip)
    have H' := Aside0.mk H
    clear H
    go_wp2
    go_meet
    case rel => exact ⟨_, (decide (a1 > 99)), (by first | rfl | (simp; done) | (simp [*]; done)), H', ⟨by first | omega | exact Nat.le_refl _⟩, ⟨kp BK229.out⟩, ⟨kp BK230.out⟩, ⟨bl HB.out⟩⟩
  ·replace c10 := Bool.eq_false_iff.mpr c10
   subst c10
   have H1 : (drachmref02_Pow.j0 k a1 true a0_0 a0_1 a0_2) = some (r1, r2, r3, r4) := by rw [if_neg (show ¬ (false = true) by decide)] at H; exact H
   clear H
   have H := H1
   clear H1
   have H' := Aside0.mk H
   clear H
   go_wp2
   go_meet
   case rel => exact ⟨_, (true), (by first | rfl | (simp; done) | (simp [*]; done)), H', ⟨by first | omega | exact Nat.le_refl _⟩, ⟨kp BK229.out⟩, ⟨kp BK230.out⟩, ⟨bl HB.out⟩⟩
 case rest =>
  clear HC4
  try clear c1
  try clear p2
  try clear c3
  try clear c7
  try clear c10
  try clear c11
  try clear c11b0
  try clear hcz8_0
  try clear hcz8_1
  try clear hcz8_2
  try clear hfz8_0
  try clear hfz8_1
  try clear hfz8_2
  obtain ⟨kq, x23_3, rfl, HA, HJ3, BK229, BK230, HB⟩ := hcut
  cases kq with
  | zero => exact absurd HA.out (by simp [drachmref02_Pow.j0])
  | succ kj3 =>
   have H := HA.out
   clear HA
   simp only [drachmref02_Pow.j0] at H
   by_cases c12 : x23_3 = true
   ·subst c12
    have H1 : (some (0, 0, 0, 1)) = some (r1, r2, r3, r4) := by rw [if_pos rfl] at H; exact H
    clear H
    have H := H1
    clear H1
    simp only [Option.some.injEq, Prod.mk.injEq] at H
    obtain ⟨rfl, rfl, rfl, rfl⟩ := H
    have hnb13 := NB230_229.out
    have hnc13 := NB229_230.out
    obtain ⟨hcz14_0, hcz14_1, hcz14_2, hcz14_3⟩ := hc4 BK230.out
    obtain ⟨hfz14_0, hfz14_1, hfz14_2, hfz14_3⟩ := hf4 BK230.out
    go_wp2
    refine bodyPost_ret (results_cell_row rfl _ _ gb230 30 #[.int .i64 0, .int .i64 0, .int .i64 0, .int .i64 1] (0, 0) _ rfl (kp (p4_3 (kp (p4_2 (kp (p4_1 (kp (p4_0 (kp BK230.out))))))))) Tryd.underlying30 rfl (by kernel_rfl)) rfl ?_
    exact ⟨by first | rfl | (simp [errW_none, errW_some] <;> rfl) | (simp [*, errW_none, errW_some] <;> rfl), bl HB.out⟩
   ·replace c12 := Bool.eq_false_iff.mpr c12
    subst c12
    have H1 : (if a0_0 = 0 then (drachmref02_Pow.j1 kj3 a1 (decide (a1 < 0)) a0_0 a0_1 a0_2) else (drachmref02_Pow.j1 kj3 a1 false a0_0 a0_1 a0_2)) = some (r1, r2, r3, r4) := by rw [if_neg (show ¬ (false = true) by decide)] at H; exact H
    clear H
    have H := H1
    clear H1
    have HC15 := Aside0.mk H
    clear H
    go_upto_region 4 with (fail)
    go_cut [31] (fun v31 wc => ∃ (kq : Nat) (x31_14 : Bool), v31 = .bool x31_14 ∧ Aside0 (drachmref02_Pow.j1 kq a1 x31_14 a0_0 a0_1 a0_2 = some (r1, r2, r3, r4)) ∧ Aside0 (kq ≤ kj3) ∧ Aside0 (wc.heap[gb229]? = some (.cells #[.int .i64 a0_0, .int .i64 a0_1, .int .i64 a0_2] 24 (0, 0))) ∧ Aside0 (wc.heap[gb230]? = some (.cells #[.int .i64 0, .int .i64 0, .int .i64 0, .int .i64 0] 30 (0, 0))) ∧ Aside0 (Below w.heap.size w wc))
    case first =>
     have H := HC15.out
     clear HC15
     by_cases c16 : a0_0 = 0
     ·rw [if_pos c16] at H
      have c16b0 : (a0_0 == 0) = true := beq_iff_eq.mpr c16
      have c16b1 : (a0_0 != 0) = false := bne_eq_false_iff_eq.mpr c16
      clear c16
      (first | rw [c16b0] | (simp only [i64_w, i32_w]; rw [c16b0]) | skip)
      have H' := Aside0.mk H
      clear H
      have hnb17 := NB229_230.out
      have hnc17 := NB230_229.out
      obtain ⟨hcz18_0, hcz18_1, hcz18_2⟩ := hc3 BK229.out
      obtain ⟨hfz18_0, hfz18_1, hfz18_2⟩ := hf3 BK229.out
      go_wp2
      go_meet
      case rel => exact ⟨_, (decide (a1 < 0)), (by first | rfl | (simp; done) | (simp [*]; done)), H', ⟨by have := HJ3.out; first | omega | exact Nat.le_refl _⟩, ⟨kp BK229.out⟩, ⟨kp BK230.out⟩, ⟨bl HB.out⟩⟩
     ·rw [if_neg c16] at H
      have c16b0 : (a0_0 == 0) = false := beq_eq_false_iff_ne.mpr c16
      have c16b1 : (a0_0 != 0) = true := bne_iff_ne.mpr c16
      (first | rw [c16b0] | (simp only [i64_w, i32_w]; rw [c16b0]) | skip)
      have H' := Aside0.mk H
      clear H
      have hnb19 := NB229_230.out
      have hnc19 := NB230_229.out
      obtain ⟨hcz20_0, hcz20_1, hcz20_2⟩ := hc3 BK229.out
      obtain ⟨hfz20_0, hfz20_1, hfz20_2⟩ := hf3 BK229.out
      go_wp2
      go_meet
      case rel => exact ⟨_, (false), (by first | rfl | (simp; done) | (simp [*]; done)), H', ⟨by have := HJ3.out; first | omega | exact Nat.le_refl _⟩, ⟨kp BK229.out⟩, ⟨kp BK230.out⟩, ⟨bl HB.out⟩⟩
    case rest =>
     clear HC15
     try clear c1
     try clear p2
     try clear c3
     try clear c7
     try clear c10
     try clear c11
     try clear c11b0
     try clear c12
     try clear c13
     try clear c14
     try clear c16
     try clear c16b0
     try clear c16b1
     try clear c17
     try clear c19
     try clear hcz14_0
     try clear hcz14_1
     try clear hcz14_2
     try clear hcz14_3
     try clear hcz18_0
     try clear hcz18_1
     try clear hcz18_2
     try clear hcz20_0
     try clear hcz20_1
     try clear hcz20_2
     try clear hcz8_0
     try clear hcz8_1
     try clear hcz8_2
     try clear hfz14_0
     try clear hfz14_1
     try clear hfz14_2
     try clear hfz14_3
     try clear hfz18_0
     try clear hfz18_1
     try clear hfz18_2
     try clear hfz20_0
     try clear hfz20_1
     try clear hfz20_2
     try clear hfz8_0
     try clear hfz8_1
     try clear hfz8_2
     try clear p2
     obtain ⟨kq, x31_14, rfl, HA, HJ14, BK229, BK230, HB⟩ := hcut
     cases kq with
     | zero => exact absurd HA.out (by simp [drachmref02_Pow.j1])
     | succ kj14 =>
      have H := HA.out
      clear HA
      simp only [drachmref02_Pow.j1] at H
      by_cases c21 : x31_14 = true
      ·subst c21
       have H1 : (some (0, 0, 0, 11)) = some (r1, r2, r3, r4) := by rw [if_pos rfl] at H; exact H
       clear H
       have H := H1
       clear H1
       simp only [Option.some.injEq, Prod.mk.injEq] at H
       obtain ⟨rfl, rfl, rfl, rfl⟩ := H
       have hnb22 := NB230_229.out
       have hnc22 := NB229_230.out
       obtain ⟨hcz23_0, hcz23_1, hcz23_2, hcz23_3⟩ := hc4 BK230.out
       obtain ⟨hfz23_0, hfz23_1, hfz23_2, hfz23_3⟩ := hf4 BK230.out
       go_wp2
       refine bodyPost_ret (results_cell_row rfl _ _ gb230 30 #[.int .i64 0, .int .i64 0, .int .i64 0, .int .i64 11] (0, 0) _ rfl (kp (p4_3 (kp (p4_2 (kp (p4_1 (kp (p4_0 (kp BK230.out))))))))) Tryd.underlying30 rfl (by kernel_rfl)) rfl ?_
       exact ⟨by first | rfl | (simp [errW_none, errW_some] <;> rfl) | (simp [*, errW_none, errW_some] <;> rfl), bl HB.out⟩
      ·replace c21 := Bool.eq_false_iff.mpr c21
       subst c21
       have H1 : (if a1 = 0 then (some (1, 1, 0, 0)) else (if a0_0 = 0 then (some (a0_0, a0_1, a0_2, 0)) else ((drachmref02_of.f kj14 a0_0 a0_1).bind fun bt232 => (if a1 < 0 then ((drachmref02_turned.f bt232.1 bt232.2.1 bt232.2.2.1 bt232.2.2.2.1 bt232.2.2.2.2).bind fun bt238 => (drachmref02_Pow.j2 kj14 (wrap64 (-a1)) (wrap64 (a0_2 * a1)) bt238.1 bt238.2.1 bt238.2.2.1 bt238.2.2.2.1 bt238.2.2.2.2)) else (drachmref02_Pow.j2 kj14 a1 (wrap64 (a0_2 * a1)) bt232.1 bt232.2.1 bt232.2.2.1 bt232.2.2.2.1 bt232.2.2.2.2))))) = some (r1, r2, r3, r4) := by rw [if_neg (show ¬ (false = true) by decide)] at H; exact H
       clear H
       have H := H1
       clear H1
       by_cases c24 : a1 = 0
       ·rw [if_pos c24] at H
        have c24b0 : (a1 == 0) = true := beq_iff_eq.mpr c24
        have c24b1 : (a1 != 0) = false := bne_eq_false_iff_eq.mpr c24
        clear c24
        simp only [Option.some.injEq, Prod.mk.injEq] at H
        obtain ⟨rfl, rfl, rfl, rfl⟩ := H
        have hnb25 := NB230_229.out
        have hnc25 := NB229_230.out
        obtain ⟨hcz26_0, hcz26_1, hcz26_2, hcz26_3⟩ := hc4 BK230.out
        obtain ⟨hfz26_0, hfz26_1, hfz26_2, hfz26_3⟩ := hf4 BK230.out
        go_wp2
        refine bodyPost_ret (results_cell_row rfl _ _ gb230 30 #[.int .i64 1, .int .i64 1, .int .i64 0, .int .i64 0] (0, 0) _ rfl (kp (p4_3 (kp (p4_2 (kp (p4_1 (kp (p4_0 (kp BK230.out))))))))) Tryd.underlying30 rfl (by kernel_rfl)) rfl ?_
        exact ⟨by first | rfl | (simp [errW_none, errW_some] <;> rfl) | (simp [*, errW_none, errW_some] <;> rfl), bl HB.out⟩
       ·rw [if_neg c24] at H
        have c24b0 : (a1 == 0) = false := beq_eq_false_iff_ne.mpr c24
        have c24b1 : (a1 != 0) = true := bne_iff_ne.mpr c24
        by_cases c27 : a0_0 = 0
        ·rw [if_pos c27] at H
         have c27b0 : (a0_0 == 0) = true := beq_iff_eq.mpr c27
         have c27b1 : (a0_0 != 0) = false := bne_eq_false_iff_eq.mpr c27
         clear c27
         simp only [Option.some.injEq, Prod.mk.injEq] at H
         obtain ⟨rfl, rfl, rfl, rfl⟩ := H
         have hnb28 := NB229_230.out
         have hnc28 := NB230_229.out
         obtain ⟨hcz29_0, hcz29_1, hcz29_2⟩ := hc3 BK229.out
         obtain ⟨hfz29_0, hfz29_1, hfz29_2⟩ := hf3 BK229.out
         obtain ⟨hcz30_0, hcz30_1, hcz30_2, hcz30_3⟩ := hc4 BK230.out
         obtain ⟨hfz30_0, hfz30_1, hfz30_2, hfz30_3⟩ := hf4 BK230.out
         go_wp2
         refine bodyPost_ret (results_cell_row rfl _ _ gb230 30 #[.int .i64 a0_0, .int .i64 a0_1, .int .i64 a0_2, .int .i64 0] (0, 0) _ rfl (kp (p4_3 (kp (p4_2 (kp (p4_1 (kp (p4_0 (kp BK230.out))))))))) Tryd.underlying30 rfl (by kernel_rfl)) rfl ?_
         exact ⟨by first | rfl | (simp [errW_none, errW_some] <;> rfl) | (simp [*, errW_none, errW_some] <;> rfl), bl HB.out⟩
        ·rw [if_neg c27] at H
         have c27b0 : (a0_0 == 0) = false := beq_eq_false_iff_ne.mpr c27
         have c27b1 : (a0_0 != 0) = true := bne_iff_ne.mpr c27
         replace H := Option.bind_eq_some_iff.mp H
         obtain ⟨⟨t232, t233, t234, t235, t236⟩, A310, H⟩ := H
         replace H : (if a1 < 0 then ((drachmref02_turned.f t232 t233 t234 t235 t236).bind fun bt238 => (drachmref02_Pow.j2 kj14 (wrap64 (-a1)) (wrap64 (a0_2 * a1)) bt238.1 bt238.2.1 bt238.2.2.1 bt238.2.2.2.1 bt238.2.2.2.2)) else (drachmref02_Pow.j2 kj14 a1 (wrap64 (a0_2 * a1)) t232 t233 t234 t235 t236)) = some (r1, r2, r3, r4) := H
         have A31 := Aside0.mk A310
         clear A310
         have HC32 := Aside0.mk H
         clear H
         have hnb33 := NB229_230.out
         have hnc33 := NB230_229.out
         obtain ⟨hcz34_0, hcz34_1, hcz34_2⟩ := hc3 BK229.out
         obtain ⟨hfz34_0, hfz34_1, hfz34_2⟩ := hf3 BK229.out
         go_upto_if 52 with (first | ((with_reducible refine gate_callee (f := 30) rfl ?_); refine goesL_ (some 46) rfl rfl Tryd.func30 (by kernel_rfl) rfl #[.int .i64 a0_0, .int .i64 a0_1] rfl (by (try simp only [List.map_toArray, List.map_cons, List.map_nil]); first | done | rfl | (simp only [List.length_drop, List.length_take]; rfl)) ?_; (with_reducible refine (drachmref02_of.calls kj14 a0_0 a0_1 t232 t233 t234 t235 t236 _ A31.out).mono ?_); rintro e w35 ⟨rfl, hb⟩; refine ⟨_, rfl, ?_⟩; replace BK229 := Aside0.mk (blk_below (kp BK229.out) hb); replace BK230 := Aside0.mk (blk_below (kp BK230.out) hb); replace HB := Aside0.mk (below_step (bl HB.out) hb); (try clear hb); (try clear hb2); (try clear hk); (try clear hi)) | ((with_reducible refine gate_dst (N := 6) rfl ?_); refine box_event ?hg (N := 6) ?hd (cs := #[.int .i64 0, .int .i64 0, .int .i64 0, .int .i64 0, .int .i64 0]) (t := 60) ?hr ?_; (case hd => rfl); (case hg => rfl); (case hr => first | (go_simp; done) | (go_simp; rfl)); intro gb237 hg w36 hbox hb; have n0_ := Aside0.mk (blk_below (kp BK229.out) hb); have n1_ := Aside0.mk (blk_below (kp BK230.out) hb); have n2_ := Aside0.mk (below_step (bl HB.out) hb); have n3_ := Aside0.mk (hbox); have n4_ := Aside0.mk ((by rw [hg]; exact (below_size (bl HB.out)) : w.heap.size ≤ gb237)); have n5_ := Aside0.mk ((by rw [hg]; exact (below_size (bl HB.out)) : w.heap.size ≤ gb237)); have n6_ := Aside0.mk ((by rw [hg]; exact Nat.ne_of_lt (blk_lt (kp BK229.out)) : gb229 ≠ gb237)); have n7_ := Aside0.mk ((by rw [hg]; exact Nat.ne_of_gt (blk_lt (kp BK229.out)) : gb237 ≠ gb229)); have n8_ := Aside0.mk ((by rw [hg]; exact Nat.ne_of_lt (blk_lt (kp BK230.out)) : gb230 ≠ gb237)); have n9_ := Aside0.mk ((by rw [hg]; exact Nat.ne_of_gt (blk_lt (kp BK230.out)) : gb237 ≠ gb230)); clear BK229; clear BK230; clear HB; have BK229 := n0_; have BK230 := n1_; have HB := n2_; have BK237 := n3_; have GW237 := n4_; have GE237 := n5_; have NB229_237 := n6_; have NB237_229 := n7_; have NB230_237 := n8_; have NB237_230 := n9_; clear n0_ n1_ n2_ n3_ n4_ n5_ n6_ n7_ n8_ n9_; clear hb hbox hg; have hnb37 := NB237_229.out; have hnc37 := NB229_237.out; have hnb38 := NB237_230.out; have hnc38 := NB230_237.out; obtain ⟨hcz39_0, hcz39_1, hcz39_2, hcz39_3, hcz39_4⟩ := hc5 BK237.out; obtain ⟨hfz39_0, hfz39_1, hfz39_2, hfz39_3, hfz39_4⟩ := hf5 BK237.out; obtain ⟨hcz40_0, hcz40_1, hcz40_2⟩ := hc3 BK229.out; obtain ⟨hfz40_0, hfz40_1, hfz40_2⟩ := hf3 BK229.out))
         (try simp only [Act.put, List.setIfInBounds_toArray, List.set_cons_zero, List.set_cons_succ])
         go_cut [1] (fun v1 wc => ∃ (kq : Nat) (x1_31 : Int) (x238000_31 : Int) (x238001_31 : Int) (x238002_31 : Int) (x238003_31 : Int) (x238004_31 : Int), v1 = .int .i64 x1_31 ∧ Aside0 (drachmref02_Pow.j2 kq x1_31 (wrap64 (a0_2 * a1)) x238000_31 x238001_31 x238002_31 x238003_31 x238004_31 = some (r1, r2, r3, r4)) ∧ Aside0 (kq ≤ kj14) ∧ Aside0 (wc.heap[gb229]? = some (.cells #[.int .i64 a0_0, .int .i64 a0_1, .int .i64 a0_2] 24 (0, 0))) ∧ Aside0 (wc.heap[gb230]? = some (.cells #[.int .i64 0, .int .i64 0, .int .i64 0, .int .i64 0] 30 (0, 0))) ∧ Aside0 (wc.heap[gb237]? = some (.cells #[.int .i64 x238000_31, .int .i64 x238001_31, .int .i64 x238002_31, .int .i64 x238003_31, .int .i64 x238004_31] 60 (0, 0))) ∧ Aside0 (Below w.heap.size w wc))
         case first =>
          have H := HC32.out
          clear HC32
          by_cases c41 : a1 < 0
          ·rw [if_pos c41] at H
           have c41b0 : decide (a1 < 0) = true := decide_eq_true c41
           clear c41
           (first | rw [c41b0] | (simp only [i64_w, i32_w]; rw [c41b0]) | skip)
           replace H := Option.bind_eq_some_iff.mp H
           obtain ⟨⟨t238, t239, t240, t241, t242⟩, A420, H⟩ := H
           replace H : (drachmref02_Pow.j2 kj14 (wrap64 (-a1)) (wrap64 (a0_2 * a1)) t238 t239 t240 t241 t242) = some (r1, r2, r3, r4) := H
           have A42 := Aside0.mk A420
           clear A420
           have H' := Aside0.mk H
           clear H
           have hnb43 := NB237_229.out
           have hnc43 := NB229_237.out
           have hnb44 := NB237_230.out
           have hnc44 := NB230_237.out
           obtain ⟨hcz45_0, hcz45_1, hcz45_2, hcz45_3, hcz45_4⟩ := hc5 BK237.out
           obtain ⟨hfz45_0, hfz45_1, hfz45_2, hfz45_3, hfz45_4⟩ := hf5 BK237.out
           go_wp2_with (first | ((with_reducible refine gate_callee (f := 57) rfl ?_); refine goesL_ (some 54) rfl rfl Tryd.func57 (by kernel_rfl) rfl #[.agg #[.int .i64 t232, .int .i64 t233, .int .i64 t234, .int .i64 t235, .int .i64 t236]] rfl (by (try simp only [List.map_toArray, List.map_cons, List.map_nil]); first | done | rfl | (simp only [List.length_drop, List.length_take]; rfl)) ?_; (with_reducible refine (drachmref02_turned.calls t232 t233 t234 t235 t236 t238 t239 t240 t241 t242 _ A42.out).mono ?_); rintro e w46 ⟨rfl, hb⟩; refine ⟨_, rfl, ?_⟩; replace BK229 := Aside0.mk (blk_below (kp BK229.out) hb); replace BK230 := Aside0.mk (blk_below (kp BK230.out) hb); replace BK237 := Aside0.mk (blk_below (kp (p5_4 (kp (p5_3 (kp (p5_2 (kp (p5_1 (kp (p5_0 (kp BK237.out))))))))))) hb); replace HB := Aside0.mk (below_step (bl HB.out) hb); (try clear hb); (try clear hb2); (try clear hk); (try clear hi); obtain ⟨hcz47_0, hcz47_1, hcz47_2, hcz47_3, hcz47_4⟩ := hc5 BK237.out; obtain ⟨hfz47_0, hfz47_1, hfz47_2, hfz47_3, hfz47_4⟩ := hf5 BK237.out))
           go_meet
           case rel => exact ⟨_, (wrap64 (-a1)), (t238), (t239), (t240), (t241), (t242), (by first | rfl | (simp; done) | (simp [*]; done)), H', ⟨by have := HJ3.out; have := HJ14.out; first | omega | exact Nat.le_refl _⟩, ⟨kp BK229.out⟩, ⟨kp BK230.out⟩, ⟨kp (p5_4 (kp (p5_3 (kp (p5_2 (kp (p5_1 (kp (p5_0 (kp BK237.out))))))))))⟩, ⟨bl HB.out⟩⟩
          ·rw [if_neg c41] at H
           have c41b0 : decide (a1 < 0) = false := decide_eq_false c41
           clear c41
           (first | rw [c41b0] | (simp only [i64_w, i32_w]; rw [c41b0]) | skip)
           have H' := Aside0.mk H
           clear H
           go_wp2
           go_meet
           case rel => exact ⟨_, (a1), (t232), (t233), (t234), (t235), (t236), (by first | rfl | (simp; done) | (simp [*]; done)), H', ⟨by have := HJ3.out; have := HJ14.out; first | omega | exact Nat.le_refl _⟩, ⟨kp BK229.out⟩, ⟨kp BK230.out⟩, ⟨kp (p5_4 (kp (p5_3 (kp (p5_2 (kp (p5_1 (kp (p5_0 (kp BK237.out))))))))))⟩, ⟨bl HB.out⟩⟩
         case rest =>
          clear HC32
          try clear c1
          try clear c2
          try clear p2
          try clear c3
          try clear c4
          try clear c5
          try clear p6
          try clear c7
          try clear c10
          try clear c11
          try clear c11b0
          try clear c12
          try clear c13
          try clear c14
          try clear c16
          try clear c16b0
          try clear c16b1
          try clear c17
          try clear c19
          try clear c21
          try clear c22
          try clear c24
          try clear c24b0
          try clear c24b1
          try clear c25
          try clear c27
          try clear c27b0
          try clear c27b1
          try clear c28
          try clear c30
          try clear c33
          try clear c37
          try clear c38
          try clear c41
          try clear c41b0
          try clear c43
          try clear c44
          try clear hcz14_0
          try clear hcz14_1
          try clear hcz14_2
          try clear hcz14_3
          try clear hcz18_0
          try clear hcz18_1
          try clear hcz18_2
          try clear hcz20_0
          try clear hcz20_1
          try clear hcz20_2
          try clear hcz23_0
          try clear hcz23_1
          try clear hcz23_2
          try clear hcz23_3
          try clear hcz26_0
          try clear hcz26_1
          try clear hcz26_2
          try clear hcz26_3
          try clear hcz29_0
          try clear hcz29_1
          try clear hcz29_2
          try clear hcz30_0
          try clear hcz30_1
          try clear hcz30_2
          try clear hcz30_3
          try clear hcz34_0
          try clear hcz34_1
          try clear hcz34_2
          try clear hcz39_0
          try clear hcz39_1
          try clear hcz39_2
          try clear hcz39_3
          try clear hcz39_4
          try clear hcz40_0
          try clear hcz40_1
          try clear hcz40_2
          try clear hcz45_0
          try clear hcz45_1
          try clear hcz45_2
          try clear hcz45_3
          try clear hcz45_4
          try clear hcz47_0
          try clear hcz47_1
          try clear hcz47_2
          try clear hcz47_3
          try clear hcz47_4
          try clear hcz8_0
          try clear hcz8_1
          try clear hcz8_2
          try clear hfz14_0
          try clear hfz14_1
          try clear hfz14_2
          try clear hfz14_3
          try clear hfz18_0
          try clear hfz18_1
          try clear hfz18_2
          try clear hfz20_0
          try clear hfz20_1
          try clear hfz20_2
          try clear hfz23_0
          try clear hfz23_1
          try clear hfz23_2
          try clear hfz23_3
          try clear hfz26_0
          try clear hfz26_1
          try clear hfz26_2
          try clear hfz26_3
          try clear hfz29_0
          try clear hfz29_1
          try clear hfz29_2
          try clear hfz30_0
          try clear hfz30_1
          try clear hfz30_2
          try clear hfz30_3
          try clear hfz34_0
          try clear hfz34_1
          try clear hfz34_2
          try clear hfz39_0
          try clear hfz39_1
          try clear hfz39_2
          try clear hfz39_3
          try clear hfz39_4
          try clear hfz40_0
          try clear hfz40_1
          try clear hfz40_2
          try clear hfz45_0
          try clear hfz45_1
          try clear hfz45_2
          try clear hfz45_3
          try clear hfz45_4
          try clear hfz47_0
          try clear hfz47_1
          try clear hfz47_2
          try clear hfz47_3
          try clear hfz47_4
          try clear hfz8_0
          try clear hfz8_1
          try clear hfz8_2
          try clear p2
          obtain ⟨kq, x1_31, x238000_31, x238001_31, x238002_31, x238003_31, x238004_31, rfl, HA, HJ31, BK229, BK230, BK237, HB⟩ := hcut
          cases kq with
          | zero => exact absurd HA.out (by simp [drachmref02_Pow.j2])
          | succ kj31 =>
           have H := HA.out
           clear HA
           simp only [drachmref02_Pow.j2] at H
           have H' := Aside0.mk H
           clear H
           have hnb48 := NB237_229.out
           have hnc48 := NB229_237.out
           have hnb49 := NB237_230.out
           have hnc49 := NB230_237.out
           obtain ⟨hcz50_0, hcz50_1, hcz50_2, hcz50_3, hcz50_4⟩ := hc5 BK237.out
           obtain ⟨hfz50_0, hfz50_1, hfz50_2, hfz50_3, hfz50_4⟩ := hf5 BK237.out
           go_wp2_with (first | ((with_reducible refine gate_dst (N := 8) rfl ?_); refine box_event ?hg (N := 8) ?hd (cs := #[.int .i64 0, .int .i64 0, .int .i64 0, .int .i64 0, .int .i64 0]) (t := 60) ?hr ?_; (case hd => rfl); (case hg => rfl); (case hr => first | (go_simp; done) | (go_simp; rfl)); intro gb243 hg w51 hbox hb; have n0_ := Aside0.mk (blk_below (kp BK229.out) hb); have n1_ := Aside0.mk (blk_below (kp BK230.out) hb); have n2_ := Aside0.mk (blk_below (kp BK237.out) hb); have n3_ := Aside0.mk (below_step (bl HB.out) hb); have n4_ := Aside0.mk (hbox); have n5_ := Aside0.mk ((by rw [hg]; exact (below_size (bl HB.out)) : w.heap.size ≤ gb243)); have n6_ := Aside0.mk ((by rw [hg]; exact (below_size (bl HB.out)) : w.heap.size ≤ gb243)); have n7_ := Aside0.mk ((by rw [hg]; exact Nat.ne_of_lt (blk_lt (kp BK229.out)) : gb229 ≠ gb243)); have n8_ := Aside0.mk ((by rw [hg]; exact Nat.ne_of_gt (blk_lt (kp BK229.out)) : gb243 ≠ gb229)); have n9_ := Aside0.mk ((by rw [hg]; exact Nat.ne_of_lt (blk_lt (kp BK230.out)) : gb230 ≠ gb243)); have n10_ := Aside0.mk ((by rw [hg]; exact Nat.ne_of_gt (blk_lt (kp BK230.out)) : gb243 ≠ gb230)); have n11_ := Aside0.mk ((by rw [hg]; exact Nat.ne_of_lt (blk_lt (kp BK237.out)) : gb237 ≠ gb243)); have n12_ := Aside0.mk ((by rw [hg]; exact Nat.ne_of_gt (blk_lt (kp BK237.out)) : gb243 ≠ gb237)); clear BK229; clear BK230; clear BK237; clear HB; have BK229 := n0_; have BK230 := n1_; have BK237 := n2_; have HB := n3_; have BK243 := n4_; have GW243 := n5_; have GE243 := n6_; have NB229_243 := n7_; have NB243_229 := n8_; have NB230_243 := n9_; have NB243_230 := n10_; have NB237_243 := n11_; have NB243_237 := n12_; clear n0_ n1_ n2_ n3_ n4_ n5_ n6_ n7_ n8_ n9_ n10_ n11_ n12_; clear hb hbox hg; have hnb52 := NB243_229.out; have hnc52 := NB229_243.out; have hnb53 := NB243_230.out; have hnc53 := NB230_243.out; have hnb54 := NB243_237.out; have hnc54 := NB237_243.out; obtain ⟨hcz55_0, hcz55_1, hcz55_2, hcz55_3, hcz55_4⟩ := hc5 BK243.out; obtain ⟨hfz55_0, hfz55_1, hfz55_2, hfz55_3, hfz55_4⟩ := hf5 BK243.out))
           go_loopg [9] kj31 (fun kq v9 w' => ∃ (x9_4 : Int) (x231000_4 : Int) (x231001_4 : Int) (x231002_4 : Int) (x231003_4 : Int) (x244000_4 : Int) (x244001_4 : Int) (x244002_4 : Int), v9 = .int .i64 x9_4 ∧ Aside0 (drachmref02_Pow.l0 kq x1_31 (wrap64 (a0_2 * a1)) x9_4 x238000_31 x238001_31 x238002_31 x238003_31 x238004_31 x244000_4 x244001_4 x244002_4 (wrap64 (x238003_31 * x1_31)) (wrap64 (x238004_31 * x1_31)) = some (r1, r2, r3, r4)) ∧ Aside0 (kq ≤ kj31) ∧ Aside0 (w'.heap[gb229]? = some (.cells #[.int .i64 a0_0, .int .i64 a0_1, .int .i64 a0_2] 24 (0, 0))) ∧ Aside0 (w'.heap[gb230]? = some (.cells #[.int .i64 x231000_4, .int .i64 x231001_4, .int .i64 x231002_4, .int .i64 x231003_4] 30 (0, 0))) ∧ Aside0 (w'.heap[gb237]? = some (.cells #[.int .i64 x238000_31, .int .i64 x238001_31, .int .i64 x238002_31, .int .i64 x238003_31, .int .i64 x238004_31] 60 (0, 0))) ∧ Aside0 (w'.heap[gb243]? = some (.cells #[.int .i64 x244000_4, .int .i64 x244001_4, .int .i64 x244002_4, .int .i64 (wrap64 (x238003_31 * x1_31)), .int .i64 (wrap64 (x238004_31 * x1_31))] 60 (0, 0))) ∧ Aside0 (Below w.heap.size w w'))
           case atStart => exact ⟨(0), (0), (0), (0), (0), (1), (1), (1), (by first | rfl | (simp; done) | (simp [*]; done)), H', ⟨Nat.le_refl _⟩, ⟨kp BK229.out⟩, ⟨kp BK230.out⟩, ⟨kp BK237.out⟩, ⟨kp (p5_4 (kp (p5_3 (kp (p5_2 (kp (p5_1 (kp (p5_0 (kp BK243.out))))))))))⟩, ⟨bl HB.out⟩⟩
           case round =>
            clear H'
            try clear c1
            try clear c2
            try clear p2
            try clear c3
            try clear c4
            try clear c5
            try clear p6
            try clear c7
            try clear c10
            try clear c11
            try clear c11b0
            try clear c12
            try clear c13
            try clear c14
            try clear c16
            try clear c16b0
            try clear c16b1
            try clear c17
            try clear c19
            try clear c21
            try clear c22
            try clear c24
            try clear c24b0
            try clear c24b1
            try clear c25
            try clear c27
            try clear c27b0
            try clear c27b1
            try clear c28
            try clear c30
            try clear c33
            try clear c37
            try clear c38
            try clear c41
            try clear c41b0
            try clear c43
            try clear c44
            try clear c48
            try clear c49
            try clear c52
            try clear c53
            try clear c54
            try clear hcz14_0
            try clear hcz14_1
            try clear hcz14_2
            try clear hcz14_3
            try clear hcz18_0
            try clear hcz18_1
            try clear hcz18_2
            try clear hcz20_0
            try clear hcz20_1
            try clear hcz20_2
            try clear hcz23_0
            try clear hcz23_1
            try clear hcz23_2
            try clear hcz23_3
            try clear hcz26_0
            try clear hcz26_1
            try clear hcz26_2
            try clear hcz26_3
            try clear hcz29_0
            try clear hcz29_1
            try clear hcz29_2
            try clear hcz30_0
            try clear hcz30_1
            try clear hcz30_2
            try clear hcz30_3
            try clear hcz34_0
            try clear hcz34_1
            try clear hcz34_2
            try clear hcz39_0
            try clear hcz39_1
            try clear hcz39_2
            try clear hcz39_3
            try clear hcz39_4
            try clear hcz40_0
            try clear hcz40_1
            try clear hcz40_2
            try clear hcz45_0
            try clear hcz45_1
            try clear hcz45_2
            try clear hcz45_3
            try clear hcz45_4
            try clear hcz47_0
            try clear hcz47_1
            try clear hcz47_2
            try clear hcz47_3
            try clear hcz47_4
            try clear hcz50_0
            try clear hcz50_1
            try clear hcz50_2
            try clear hcz50_3
            try clear hcz50_4
            try clear hcz55_0
            try clear hcz55_1
            try clear hcz55_2
            try clear hcz55_3
            try clear hcz55_4
            try clear hcz8_0
            try clear hcz8_1
            try clear hcz8_2
            try clear hfz14_0
            try clear hfz14_1
            try clear hfz14_2
            try clear hfz14_3
            try clear hfz18_0
            try clear hfz18_1
            try clear hfz18_2
            try clear hfz20_0
            try clear hfz20_1
            try clear hfz20_2
            try clear hfz23_0
            try clear hfz23_1
            try clear hfz23_2
            try clear hfz23_3
            try clear hfz26_0
            try clear hfz26_1
            try clear hfz26_2
            try clear hfz26_3
            try clear hfz29_0
            try clear hfz29_1
            try clear hfz29_2
            try clear hfz30_0
            try clear hfz30_1
            try clear hfz30_2
            try clear hfz30_3
            try clear hfz34_0
            try clear hfz34_1
            try clear hfz34_2
            try clear hfz39_0
            try clear hfz39_1
            try clear hfz39_2
            try clear hfz39_3
            try clear hfz39_4
            try clear hfz40_0
            try clear hfz40_1
            try clear hfz40_2
            try clear hfz45_0
            try clear hfz45_1
            try clear hfz45_2
            try clear hfz45_3
            try clear hfz45_4
            try clear hfz47_0
            try clear hfz47_1
            try clear hfz47_2
            try clear hfz47_3
            try clear hfz47_4
            try clear hfz50_0
            try clear hfz50_1
            try clear hfz50_2
            try clear hfz50_3
            try clear hfz50_4
            try clear hfz55_0
            try clear hfz55_1
            try clear hfz55_2
            try clear hfz55_3
            try clear hfz55_4
            try clear hfz8_0
            try clear hfz8_1
            try clear hfz8_2
            try clear p2
            try clear p6
            obtain ⟨x9_4, x231000_4, x231001_4, x231002_4, x231003_4, x244000_4, x244001_4, x244002_4, rfl, HA, HK4, BK229, BK230, BK237, BK243, HB⟩ := hrel
            cases gk with
            | zero => exact absurd HA.out (by simp [drachmref02_Pow.l0])
            | succ k4 =>
             have H := HA.out
             clear HA
             simp only [drachmref02_Pow.l0] at H
             by_cases c56 : x9_4 < x1_31
             ·rw [if_pos c56] at H
              have c56b0 : decide (x9_4 < x1_31) = true := decide_eq_true c56
              clear c56
              replace H := Option.bind_eq_some_iff.mp H
              obtain ⟨⟨t248, t249⟩, A570, H⟩ := H
              replace H : ((drachmref01_Mul.f k4 x244002_4 x238002_31).bind fun bt251 => (if t249 = true then (if bt251.2 = true then (drachmref02_Pow.l0 k4 x1_31 (wrap64 (a0_2 * a1)) (wrap64 (x9_4 + 1)) x238000_31 x238001_31 x238002_31 x238003_31 x238004_31 (wrap64 (x244000_4 * x238000_31)) t248 bt251.1 (wrap64 (x238003_31 * x1_31)) (wrap64 (x238004_31 * x1_31))) else (some (0, 0, 0, 10))) else (some (0, 0, 0, 10)))) = some (r1, r2, r3, r4) := H
              have A57 := Aside0.mk A570
              clear A570
              replace H := Option.bind_eq_some_iff.mp H
              obtain ⟨⟨t251, t252⟩, A580, H⟩ := H
              replace H : (if t249 = true then (if t252 = true then (drachmref02_Pow.l0 k4 x1_31 (wrap64 (a0_2 * a1)) (wrap64 (x9_4 + 1)) x238000_31 x238001_31 x238002_31 x238003_31 x238004_31 (wrap64 (x244000_4 * x238000_31)) t248 t251 (wrap64 (x238003_31 * x1_31)) (wrap64 (x238004_31 * x1_31))) else (some (0, 0, 0, 10))) else (some (0, 0, 0, 10))) = some (r1, r2, r3, r4) := H
              have A58 := Aside0.mk A580
              clear A580
              by_cases c59 : t249 = true
              ·subst c59
               have H1 : (if t252 = true then (drachmref02_Pow.l0 k4 x1_31 (wrap64 (a0_2 * a1)) (wrap64 (x9_4 + 1)) x238000_31 x238001_31 x238002_31 x238003_31 x238004_31 (wrap64 (x244000_4 * x238000_31)) t248 t251 (wrap64 (x238003_31 * x1_31)) (wrap64 (x238004_31 * x1_31))) else (some (0, 0, 0, 10))) = some (r1, r2, r3, r4) := by rw [if_pos rfl] at H; exact H
               clear H
               have H := H1
               clear H1
               by_cases c60 : t252 = true
               ·subst c60
                have H1 : (drachmref02_Pow.l0 k4 x1_31 (wrap64 (a0_2 * a1)) (wrap64 (x9_4 + 1)) x238000_31 x238001_31 x238002_31 x238003_31 x238004_31 (wrap64 (x244000_4 * x238000_31)) t248 t251 (wrap64 (x238003_31 * x1_31)) (wrap64 (x238004_31 * x1_31))) = some (r1, r2, r3, r4) := by rw [if_pos rfl] at H; exact H
                clear H
                have H := H1
                clear H1
                have H' := Aside0.mk H
                clear H
                have hnb61 := NB243_229.out
                have hnc61 := NB229_243.out
                have hnb62 := NB243_230.out
                have hnc62 := NB230_243.out
                have hnb63 := NB243_237.out
                have hnc63 := NB237_243.out
                obtain ⟨hcz64_0, hcz64_1, hcz64_2, hcz64_3, hcz64_4⟩ := hc5 BK243.out
                obtain ⟨hfz64_0, hfz64_1, hfz64_2, hfz64_3, hfz64_4⟩ := hf5 BK243.out
                have hnb65 := NB237_229.out
                have hnc65 := NB229_237.out
                have hnb66 := NB237_230.out
                have hnc66 := NB230_237.out
                obtain ⟨hcz67_0, hcz67_1, hcz67_2, hcz67_3, hcz67_4⟩ := hc5 BK237.out
                obtain ⟨hfz67_0, hfz67_1, hfz67_2, hfz67_3, hfz67_4⟩ := hf5 BK237.out
                go_wp2_with (first | ((with_reducible refine gate_callee (f := 50) rfl ?_); refine goesL_ (some 75) rfl rfl Tryd.func50 (by kernel_rfl) rfl #[.int .i64 x244001_4, .int .i64 x238001_31] rfl (by (try simp only [List.map_toArray, List.map_cons, List.map_nil]); first | done | rfl | (simp only [List.length_drop, List.length_take]; rfl)) ?_; (with_reducible refine (drachmref01_Mul.calls k4 x244001_4 x238001_31 t248 true _ A57.out).mono ?_); rintro e w68 ⟨rfl, hb⟩; refine ⟨_, rfl, ?_⟩; replace BK229 := Aside0.mk (blk_below (kp BK229.out) hb); replace BK230 := Aside0.mk (blk_below (kp BK230.out) hb); replace BK237 := Aside0.mk (blk_below (kp BK237.out) hb); replace BK243 := Aside0.mk (blk_below (kp BK243.out) hb); replace HB := Aside0.mk (below_step (bl HB.out) hb); (try clear hb); (try clear hb2); (try clear hk); (try clear hi)) | ((with_reducible refine gate_dst (N := 10) rfl ?_); refine box_event ?hg (N := 10) ?hd (cs := #[.int .i64 0, .bool false]) (t := 89) ?hr ?_; (case hd => rfl); (case hg => rfl); (case hr => first | (go_simp; done) | (go_simp; rfl)); intro gb250 hg w69 hbox hb; have n0_ := Aside0.mk (blk_below (kp BK229.out) hb); have n1_ := Aside0.mk (blk_below (kp BK230.out) hb); have n2_ := Aside0.mk (blk_below (kp BK237.out) hb); have n3_ := Aside0.mk (blk_below (kp BK243.out) hb); have n4_ := Aside0.mk (below_step (bl HB.out) hb); have n5_ := Aside0.mk (hbox); have n6_ := Aside0.mk ((by rw [hg]; exact (below_size (bl HB.out)) : w.heap.size ≤ gb250)); have n7_ := Aside0.mk ((by rw [hg]; exact (below_size (bl HB.out)) : w.heap.size ≤ gb250)); have n8_ := Aside0.mk ((by rw [hg]; exact Nat.ne_of_lt (blk_lt (kp BK229.out)) : gb229 ≠ gb250)); have n9_ := Aside0.mk ((by rw [hg]; exact Nat.ne_of_gt (blk_lt (kp BK229.out)) : gb250 ≠ gb229)); have n10_ := Aside0.mk ((by rw [hg]; exact Nat.ne_of_lt (blk_lt (kp BK230.out)) : gb230 ≠ gb250)); have n11_ := Aside0.mk ((by rw [hg]; exact Nat.ne_of_gt (blk_lt (kp BK230.out)) : gb250 ≠ gb230)); have n12_ := Aside0.mk ((by rw [hg]; exact Nat.ne_of_lt (blk_lt (kp BK237.out)) : gb237 ≠ gb250)); have n13_ := Aside0.mk ((by rw [hg]; exact Nat.ne_of_gt (blk_lt (kp BK237.out)) : gb250 ≠ gb237)); have n14_ := Aside0.mk ((by rw [hg]; exact Nat.ne_of_lt (blk_lt (kp BK243.out)) : gb243 ≠ gb250)); have n15_ := Aside0.mk ((by rw [hg]; exact Nat.ne_of_gt (blk_lt (kp BK243.out)) : gb250 ≠ gb243)); clear BK229; clear BK230; clear BK237; clear BK243; clear HB; have BK229 := n0_; have BK230 := n1_; have BK237 := n2_; have BK243 := n3_; have HB := n4_; have BK250 := n5_; have GW250 := n6_; have GE250 := n7_; have NB229_250 := n8_; have NB250_229 := n9_; have NB230_250 := n10_; have NB250_230 := n11_; have NB237_250 := n12_; have NB250_237 := n13_; have NB243_250 := n14_; have NB250_243 := n15_; clear n0_ n1_ n2_ n3_ n4_ n5_ n6_ n7_ n8_ n9_ n10_ n11_ n12_ n13_ n14_ n15_; clear hb hbox hg; have hnb70 := NB250_229.out; have hnc70 := NB229_250.out; have hnb71 := NB250_230.out; have hnc71 := NB230_250.out; have hnb72 := NB250_237.out; have hnc72 := NB237_250.out; have hnb73 := NB250_243.out; have hnc73 := NB243_250.out; obtain ⟨hcz74_0, hcz74_1⟩ := hc2 BK250.out; obtain ⟨hfz74_0, hfz74_1⟩ := hf2 BK250.out; obtain ⟨hcz75_0, hcz75_1, hcz75_2, hcz75_3, hcz75_4⟩ := hc5 BK243.out; obtain ⟨hfz75_0, hfz75_1, hfz75_2, hfz75_3, hfz75_4⟩ := hf5 BK243.out; obtain ⟨hcz76_0, hcz76_1, hcz76_2, hcz76_3, hcz76_4⟩ := hc5 BK237.out; obtain ⟨hfz76_0, hfz76_1, hfz76_2, hfz76_3, hfz76_4⟩ := hf5 BK237.out) | ((with_reducible refine gate_callee (f := 50) rfl ?_); refine goesL_ (some 80) rfl rfl Tryd.func50 (by kernel_rfl) rfl #[.int .i64 x244002_4, .int .i64 x238002_31] rfl (by (try simp only [List.map_toArray, List.map_cons, List.map_nil]); first | done | rfl | (simp only [List.length_drop, List.length_take]; rfl)) ?_; (with_reducible refine (drachmref01_Mul.calls k4 x244002_4 x238002_31 t251 true _ A58.out).mono ?_); rintro e w77 ⟨rfl, hb⟩; refine ⟨_, rfl, ?_⟩; replace BK229 := Aside0.mk (blk_below (kp BK229.out) hb); replace BK230 := Aside0.mk (blk_below (kp BK230.out) hb); replace BK237 := Aside0.mk (blk_below (kp BK237.out) hb); replace BK243 := Aside0.mk (blk_below (kp BK243.out) hb); replace BK250 := Aside0.mk (blk_below (kp (p2_1 (kp (p2_0 (kp BK250.out))))) hb); replace HB := Aside0.mk (below_step (bl HB.out) hb); (try clear hb); (try clear hb2); (try clear hk); (try clear hi)) | ((with_reducible refine gate_dst (N := 11) rfl ?_); refine box_event ?hg (N := 11) ?hd (cs := #[.int .i64 0, .bool false]) (t := 89) ?hr ?_; (case hd => rfl); (case hg => rfl); (case hr => first | (go_simp; done) | (go_simp; rfl)); intro gb253 hg w78 hbox hb; have n0_ := Aside0.mk (blk_below (kp BK229.out) hb); have n1_ := Aside0.mk (blk_below (kp BK230.out) hb); have n2_ := Aside0.mk (blk_below (kp BK237.out) hb); have n3_ := Aside0.mk (blk_below (kp BK243.out) hb); have n4_ := Aside0.mk (blk_below (kp BK250.out) hb); have n5_ := Aside0.mk (below_step (bl HB.out) hb); have n6_ := Aside0.mk (hbox); have n7_ := Aside0.mk ((by rw [hg]; exact (below_size (bl HB.out)) : w.heap.size ≤ gb253)); have n8_ := Aside0.mk ((by rw [hg]; exact (below_size (bl HB.out)) : w.heap.size ≤ gb253)); have n9_ := Aside0.mk ((by rw [hg]; exact Nat.ne_of_lt (blk_lt (kp BK229.out)) : gb229 ≠ gb253)); have n10_ := Aside0.mk ((by rw [hg]; exact Nat.ne_of_gt (blk_lt (kp BK229.out)) : gb253 ≠ gb229)); have n11_ := Aside0.mk ((by rw [hg]; exact Nat.ne_of_lt (blk_lt (kp BK230.out)) : gb230 ≠ gb253)); have n12_ := Aside0.mk ((by rw [hg]; exact Nat.ne_of_gt (blk_lt (kp BK230.out)) : gb253 ≠ gb230)); have n13_ := Aside0.mk ((by rw [hg]; exact Nat.ne_of_lt (blk_lt (kp BK237.out)) : gb237 ≠ gb253)); have n14_ := Aside0.mk ((by rw [hg]; exact Nat.ne_of_gt (blk_lt (kp BK237.out)) : gb253 ≠ gb237)); have n15_ := Aside0.mk ((by rw [hg]; exact Nat.ne_of_lt (blk_lt (kp BK243.out)) : gb243 ≠ gb253)); have n16_ := Aside0.mk ((by rw [hg]; exact Nat.ne_of_gt (blk_lt (kp BK243.out)) : gb253 ≠ gb243)); have n17_ := Aside0.mk ((by rw [hg]; exact Nat.ne_of_lt (blk_lt (kp BK250.out)) : gb250 ≠ gb253)); have n18_ := Aside0.mk ((by rw [hg]; exact Nat.ne_of_gt (blk_lt (kp BK250.out)) : gb253 ≠ gb250)); clear BK229; clear BK230; clear BK237; clear BK243; clear BK250; clear HB; have BK229 := n0_; have BK230 := n1_; have BK237 := n2_; have BK243 := n3_; have BK250 := n4_; have HB := n5_; have BK253 := n6_; have GW253 := n7_; have GE253 := n8_; have NB229_253 := n9_; have NB253_229 := n10_; have NB230_253 := n11_; have NB253_230 := n12_; have NB237_253 := n13_; have NB253_237 := n14_; have NB243_253 := n15_; have NB253_243 := n16_; have NB250_253 := n17_; have NB253_250 := n18_; clear n0_ n1_ n2_ n3_ n4_ n5_ n6_ n7_ n8_ n9_ n10_ n11_ n12_ n13_ n14_ n15_ n16_ n17_ n18_; clear hb hbox hg; have hnb79 := NB253_229.out; have hnc79 := NB229_253.out; have hnb80 := NB253_230.out; have hnc80 := NB230_253.out; have hnb81 := NB253_237.out; have hnc81 := NB237_253.out; have hnb82 := NB253_243.out; have hnc82 := NB243_253.out; have hnb83 := NB253_250.out; have hnc83 := NB250_253.out; obtain ⟨hcz84_0, hcz84_1⟩ := hc2 BK253.out; obtain ⟨hfz84_0, hfz84_1⟩ := hf2 BK253.out; obtain ⟨hcz85_0, hcz85_1⟩ := hc2 BK250.out; obtain ⟨hfz85_0, hfz85_1⟩ := hf2 BK250.out; obtain ⟨hcz86_0, hcz86_1, hcz86_2, hcz86_3, hcz86_4⟩ := hc5 BK243.out; obtain ⟨hfz86_0, hfz86_1, hfz86_2, hfz86_3, hfz86_4⟩ := hf5 BK243.out; obtain ⟨hcz87_0, hcz87_1, hcz87_2, hcz87_3, hcz87_4⟩ := hc5 BK237.out; obtain ⟨hfz87_0, hfz87_1, hfz87_2, hfz87_3, hfz87_4⟩ := hf5 BK237.out))
                go_roundg k4
                case measure => have := HJ3.out; have := HJ14.out; have := HJ31.out; have := HK4.out; omega
                case rel => exact ⟨(wrap64 (x9_4 + 1)), (x231000_4), (x231001_4), (x231002_4), (x231003_4), (wrap64 (x244000_4 * x238000_31)), (t248), (t251), (by first | rfl | (simp; done) | (simp [*]; done)), H', ⟨by have := HJ3.out; have := HJ14.out; have := HJ31.out; have := HK4.out; omega⟩, ⟨kp BK229.out⟩, ⟨kp BK230.out⟩, ⟨kp BK237.out⟩, ⟨kp (p5_0 (kp (p5_2 (kp (p5_1 (kp BK243.out))))))⟩, ⟨bl HB.out⟩⟩
               ·replace c60 := Bool.eq_false_iff.mpr c60
                subst c60
                have H1 : (some (0, 0, 0, 10)) = some (r1, r2, r3, r4) := by rw [if_neg (show ¬ (false = true) by decide)] at H; exact H
                clear H
                have H := H1
                clear H1
                simp only [Option.some.injEq, Prod.mk.injEq] at H
                obtain ⟨rfl, rfl, rfl, rfl⟩ := H
                have hnb88 := NB243_229.out
                have hnc88 := NB229_243.out
                have hnb89 := NB243_230.out
                have hnc89 := NB230_243.out
                have hnb90 := NB243_237.out
                have hnc90 := NB237_243.out
                obtain ⟨hcz91_0, hcz91_1, hcz91_2, hcz91_3, hcz91_4⟩ := hc5 BK243.out
                obtain ⟨hfz91_0, hfz91_1, hfz91_2, hfz91_3, hfz91_4⟩ := hf5 BK243.out
                have hnb92 := NB237_229.out
                have hnc92 := NB229_237.out
                have hnb93 := NB237_230.out
                have hnc93 := NB230_237.out
                obtain ⟨hcz94_0, hcz94_1, hcz94_2, hcz94_3, hcz94_4⟩ := hc5 BK237.out
                obtain ⟨hfz94_0, hfz94_1, hfz94_2, hfz94_3, hfz94_4⟩ := hf5 BK237.out
                go_wp2_with (first | ((with_reducible refine gate_callee (f := 50) rfl ?_); refine goesL_ (some 75) rfl rfl Tryd.func50 (by kernel_rfl) rfl #[.int .i64 x244001_4, .int .i64 x238001_31] rfl (by (try simp only [List.map_toArray, List.map_cons, List.map_nil]); first | done | rfl | (simp only [List.length_drop, List.length_take]; rfl)) ?_; (with_reducible refine (drachmref01_Mul.calls k4 x244001_4 x238001_31 t248 true _ A57.out).mono ?_); rintro e w95 ⟨rfl, hb⟩; refine ⟨_, rfl, ?_⟩; replace BK229 := Aside0.mk (blk_below (kp BK229.out) hb); replace BK230 := Aside0.mk (blk_below (kp BK230.out) hb); replace BK237 := Aside0.mk (blk_below (kp BK237.out) hb); replace BK243 := Aside0.mk (blk_below (kp BK243.out) hb); replace HB := Aside0.mk (below_step (bl HB.out) hb); (try clear hb); (try clear hb2); (try clear hk); (try clear hi)) | ((with_reducible refine gate_dst (N := 10) rfl ?_); refine box_event ?hg (N := 10) ?hd (cs := #[.int .i64 0, .bool false]) (t := 89) ?hr ?_; (case hd => rfl); (case hg => rfl); (case hr => first | (go_simp; done) | (go_simp; rfl)); intro gb250 hg w96 hbox hb; have n0_ := Aside0.mk (blk_below (kp BK229.out) hb); have n1_ := Aside0.mk (blk_below (kp BK230.out) hb); have n2_ := Aside0.mk (blk_below (kp BK237.out) hb); have n3_ := Aside0.mk (blk_below (kp BK243.out) hb); have n4_ := Aside0.mk (below_step (bl HB.out) hb); have n5_ := Aside0.mk (hbox); have n6_ := Aside0.mk ((by rw [hg]; exact (below_size (bl HB.out)) : w.heap.size ≤ gb250)); have n7_ := Aside0.mk ((by rw [hg]; exact (below_size (bl HB.out)) : w.heap.size ≤ gb250)); have n8_ := Aside0.mk ((by rw [hg]; exact Nat.ne_of_lt (blk_lt (kp BK229.out)) : gb229 ≠ gb250)); have n9_ := Aside0.mk ((by rw [hg]; exact Nat.ne_of_gt (blk_lt (kp BK229.out)) : gb250 ≠ gb229)); have n10_ := Aside0.mk ((by rw [hg]; exact Nat.ne_of_lt (blk_lt (kp BK230.out)) : gb230 ≠ gb250)); have n11_ := Aside0.mk ((by rw [hg]; exact Nat.ne_of_gt (blk_lt (kp BK230.out)) : gb250 ≠ gb230)); have n12_ := Aside0.mk ((by rw [hg]; exact Nat.ne_of_lt (blk_lt (kp BK237.out)) : gb237 ≠ gb250)); have n13_ := Aside0.mk ((by rw [hg]; exact Nat.ne_of_gt (blk_lt (kp BK237.out)) : gb250 ≠ gb237)); have n14_ := Aside0.mk ((by rw [hg]; exact Nat.ne_of_lt (blk_lt (kp BK243.out)) : gb243 ≠ gb250)); have n15_ := Aside0.mk ((by rw [hg]; exact Nat.ne_of_gt (blk_lt (kp BK243.out)) : gb250 ≠ gb243)); clear BK229; clear BK230; clear BK237; clear BK243; clear HB; have BK229 := n0_; have BK230 := n1_; have BK237 := n2_; have BK243 := n3_; have HB := n4_; have BK250 := n5_; have GW250 := n6_; have GE250 := n7_; have NB229_250 := n8_; have NB250_229 := n9_; have NB230_250 := n10_; have NB250_230 := n11_; have NB237_250 := n12_; have NB250_237 := n13_; have NB243_250 := n14_; have NB250_243 := n15_; clear n0_ n1_ n2_ n3_ n4_ n5_ n6_ n7_ n8_ n9_ n10_ n11_ n12_ n13_ n14_ n15_; clear hb hbox hg; have hnb97 := NB250_229.out; have hnc97 := NB229_250.out; have hnb98 := NB250_230.out; have hnc98 := NB230_250.out; have hnb99 := NB250_237.out; have hnc99 := NB237_250.out; have hnb100 := NB250_243.out; have hnc100 := NB243_250.out; obtain ⟨hcz101_0, hcz101_1⟩ := hc2 BK250.out; obtain ⟨hfz101_0, hfz101_1⟩ := hf2 BK250.out; obtain ⟨hcz102_0, hcz102_1, hcz102_2, hcz102_3, hcz102_4⟩ := hc5 BK243.out; obtain ⟨hfz102_0, hfz102_1, hfz102_2, hfz102_3, hfz102_4⟩ := hf5 BK243.out; obtain ⟨hcz103_0, hcz103_1, hcz103_2, hcz103_3, hcz103_4⟩ := hc5 BK237.out; obtain ⟨hfz103_0, hfz103_1, hfz103_2, hfz103_3, hfz103_4⟩ := hf5 BK237.out) | ((with_reducible refine gate_callee (f := 50) rfl ?_); refine goesL_ (some 80) rfl rfl Tryd.func50 (by kernel_rfl) rfl #[.int .i64 x244002_4, .int .i64 x238002_31] rfl (by (try simp only [List.map_toArray, List.map_cons, List.map_nil]); first | done | rfl | (simp only [List.length_drop, List.length_take]; rfl)) ?_; (with_reducible refine (drachmref01_Mul.calls k4 x244002_4 x238002_31 t251 false _ A58.out).mono ?_); rintro e w104 ⟨rfl, hb⟩; refine ⟨_, rfl, ?_⟩; replace BK229 := Aside0.mk (blk_below (kp BK229.out) hb); replace BK230 := Aside0.mk (blk_below (kp BK230.out) hb); replace BK237 := Aside0.mk (blk_below (kp BK237.out) hb); replace BK243 := Aside0.mk (blk_below (kp BK243.out) hb); replace BK250 := Aside0.mk (blk_below (kp (p2_1 (kp (p2_0 (kp BK250.out))))) hb); replace HB := Aside0.mk (below_step (bl HB.out) hb); (try clear hb); (try clear hb2); (try clear hk); (try clear hi)) | ((with_reducible refine gate_dst (N := 11) rfl ?_); refine box_event ?hg (N := 11) ?hd (cs := #[.int .i64 0, .bool false]) (t := 89) ?hr ?_; (case hd => rfl); (case hg => rfl); (case hr => first | (go_simp; done) | (go_simp; rfl)); intro gb253 hg w105 hbox hb; have n0_ := Aside0.mk (blk_below (kp BK229.out) hb); have n1_ := Aside0.mk (blk_below (kp BK230.out) hb); have n2_ := Aside0.mk (blk_below (kp BK237.out) hb); have n3_ := Aside0.mk (blk_below (kp BK243.out) hb); have n4_ := Aside0.mk (blk_below (kp BK250.out) hb); have n5_ := Aside0.mk (below_step (bl HB.out) hb); have n6_ := Aside0.mk (hbox); have n7_ := Aside0.mk ((by rw [hg]; exact (below_size (bl HB.out)) : w.heap.size ≤ gb253)); have n8_ := Aside0.mk ((by rw [hg]; exact (below_size (bl HB.out)) : w.heap.size ≤ gb253)); have n9_ := Aside0.mk ((by rw [hg]; exact Nat.ne_of_lt (blk_lt (kp BK229.out)) : gb229 ≠ gb253)); have n10_ := Aside0.mk ((by rw [hg]; exact Nat.ne_of_gt (blk_lt (kp BK229.out)) : gb253 ≠ gb229)); have n11_ := Aside0.mk ((by rw [hg]; exact Nat.ne_of_lt (blk_lt (kp BK230.out)) : gb230 ≠ gb253)); have n12_ := Aside0.mk ((by rw [hg]; exact Nat.ne_of_gt (blk_lt (kp BK230.out)) : gb253 ≠ gb230)); have n13_ := Aside0.mk ((by rw [hg]; exact Nat.ne_of_lt (blk_lt (kp BK237.out)) : gb237 ≠ gb253)); have n14_ := Aside0.mk ((by rw [hg]; exact Nat.ne_of_gt (blk_lt (kp BK237.out)) : gb253 ≠ gb237)); have n15_ := Aside0.mk ((by rw [hg]; exact Nat.ne_of_lt (blk_lt (kp BK243.out)) : gb243 ≠ gb253)); have n16_ := Aside0.mk ((by rw [hg]; exact Nat.ne_of_gt (blk_lt (kp BK243.out)) : gb253 ≠ gb243)); have n17_ := Aside0.mk ((by rw [hg]; exact Nat.ne_of_lt (blk_lt (kp BK250.out)) : gb250 ≠ gb253)); have n18_ := Aside0.mk ((by rw [hg]; exact Nat.ne_of_gt (blk_lt (kp BK250.out)) : gb253 ≠ gb250)); clear BK229; clear BK230; clear BK237; clear BK243; clear BK250; clear HB; have BK229 := n0_; have BK230 := n1_; have BK237 := n2_; have BK243 := n3_; have BK250 := n4_; have HB := n5_; have BK253 := n6_; have GW253 := n7_; have GE253 := n8_; have NB229_253 := n9_; have NB253_229 := n10_; have NB230_253 := n11_; have NB253_230 := n12_; have NB237_253 := n13_; have NB253_237 := n14_; have NB243_253 := n15_; have NB253_243 := n16_; have NB250_253 := n17_; have NB253_250 := n18_; clear n0_ n1_ n2_ n3_ n4_ n5_ n6_ n7_ n8_ n9_ n10_ n11_ n12_ n13_ n14_ n15_ n16_ n17_ n18_; clear hb hbox hg; have hnb106 := NB253_229.out; have hnc106 := NB229_253.out; have hnb107 := NB253_230.out; have hnc107 := NB230_253.out; have hnb108 := NB253_237.out; have hnc108 := NB237_253.out; have hnb109 := NB253_243.out; have hnc109 := NB243_253.out; have hnb110 := NB253_250.out; have hnc110 := NB250_253.out; obtain ⟨hcz111_0, hcz111_1⟩ := hc2 BK253.out; obtain ⟨hfz111_0, hfz111_1⟩ := hf2 BK253.out; obtain ⟨hcz112_0, hcz112_1⟩ := hc2 BK250.out; obtain ⟨hfz112_0, hfz112_1⟩ := hf2 BK250.out; have hnb113 := NB230_229.out; have hnc113 := NB229_230.out; obtain ⟨hcz114_0, hcz114_1, hcz114_2, hcz114_3⟩ := hc4 BK230.out; obtain ⟨hfz114_0, hfz114_1, hfz114_2, hfz114_3⟩ := hf4 BK230.out))
                refine bodyPost_ret (results_cell_row rfl _ _ gb230 30 #[.int .i64 0, .int .i64 0, .int .i64 0, .int .i64 10] (0, 0) _ rfl (kp (p4_3 (kp (p4_2 (kp (p4_1 (kp (p4_0 (kp BK230.out))))))))) Tryd.underlying30 rfl (by kernel_rfl)) rfl ?_
                exact ⟨by first | rfl | (simp [errW_none, errW_some] <;> rfl) | (simp [*, errW_none, errW_some] <;> rfl), bl HB.out⟩
              ·replace c59 := Bool.eq_false_iff.mpr c59
               subst c59
               have H1 : (some (0, 0, 0, 10)) = some (r1, r2, r3, r4) := by rw [if_neg (show ¬ (false = true) by decide)] at H; exact H
               clear H
               have H := H1
               clear H1
               simp only [Option.some.injEq, Prod.mk.injEq] at H
               obtain ⟨rfl, rfl, rfl, rfl⟩ := H
               have hnb115 := NB243_229.out
               have hnc115 := NB229_243.out
               have hnb116 := NB243_230.out
               have hnc116 := NB230_243.out
               have hnb117 := NB243_237.out
               have hnc117 := NB237_243.out
               obtain ⟨hcz118_0, hcz118_1, hcz118_2, hcz118_3, hcz118_4⟩ := hc5 BK243.out
               obtain ⟨hfz118_0, hfz118_1, hfz118_2, hfz118_3, hfz118_4⟩ := hf5 BK243.out
               have hnb119 := NB237_229.out
               have hnc119 := NB229_237.out
               have hnb120 := NB237_230.out
               have hnc120 := NB230_237.out
               obtain ⟨hcz121_0, hcz121_1, hcz121_2, hcz121_3, hcz121_4⟩ := hc5 BK237.out
               obtain ⟨hfz121_0, hfz121_1, hfz121_2, hfz121_3, hfz121_4⟩ := hf5 BK237.out
               go_wp2_with (first | ((with_reducible refine gate_callee (f := 50) rfl ?_); refine goesL_ (some 75) rfl rfl Tryd.func50 (by kernel_rfl) rfl #[.int .i64 x244001_4, .int .i64 x238001_31] rfl (by (try simp only [List.map_toArray, List.map_cons, List.map_nil]); first | done | rfl | (simp only [List.length_drop, List.length_take]; rfl)) ?_; (with_reducible refine (drachmref01_Mul.calls k4 x244001_4 x238001_31 t248 false _ A57.out).mono ?_); rintro e w122 ⟨rfl, hb⟩; refine ⟨_, rfl, ?_⟩; replace BK229 := Aside0.mk (blk_below (kp BK229.out) hb); replace BK230 := Aside0.mk (blk_below (kp BK230.out) hb); replace BK237 := Aside0.mk (blk_below (kp BK237.out) hb); replace BK243 := Aside0.mk (blk_below (kp BK243.out) hb); replace HB := Aside0.mk (below_step (bl HB.out) hb); (try clear hb); (try clear hb2); (try clear hk); (try clear hi)) | ((with_reducible refine gate_dst (N := 10) rfl ?_); refine box_event ?hg (N := 10) ?hd (cs := #[.int .i64 0, .bool false]) (t := 89) ?hr ?_; (case hd => rfl); (case hg => rfl); (case hr => first | (go_simp; done) | (go_simp; rfl)); intro gb250 hg w123 hbox hb; have n0_ := Aside0.mk (blk_below (kp BK229.out) hb); have n1_ := Aside0.mk (blk_below (kp BK230.out) hb); have n2_ := Aside0.mk (blk_below (kp BK237.out) hb); have n3_ := Aside0.mk (blk_below (kp BK243.out) hb); have n4_ := Aside0.mk (below_step (bl HB.out) hb); have n5_ := Aside0.mk (hbox); have n6_ := Aside0.mk ((by rw [hg]; exact (below_size (bl HB.out)) : w.heap.size ≤ gb250)); have n7_ := Aside0.mk ((by rw [hg]; exact (below_size (bl HB.out)) : w.heap.size ≤ gb250)); have n8_ := Aside0.mk ((by rw [hg]; exact Nat.ne_of_lt (blk_lt (kp BK229.out)) : gb229 ≠ gb250)); have n9_ := Aside0.mk ((by rw [hg]; exact Nat.ne_of_gt (blk_lt (kp BK229.out)) : gb250 ≠ gb229)); have n10_ := Aside0.mk ((by rw [hg]; exact Nat.ne_of_lt (blk_lt (kp BK230.out)) : gb230 ≠ gb250)); have n11_ := Aside0.mk ((by rw [hg]; exact Nat.ne_of_gt (blk_lt (kp BK230.out)) : gb250 ≠ gb230)); have n12_ := Aside0.mk ((by rw [hg]; exact Nat.ne_of_lt (blk_lt (kp BK237.out)) : gb237 ≠ gb250)); have n13_ := Aside0.mk ((by rw [hg]; exact Nat.ne_of_gt (blk_lt (kp BK237.out)) : gb250 ≠ gb237)); have n14_ := Aside0.mk ((by rw [hg]; exact Nat.ne_of_lt (blk_lt (kp BK243.out)) : gb243 ≠ gb250)); have n15_ := Aside0.mk ((by rw [hg]; exact Nat.ne_of_gt (blk_lt (kp BK243.out)) : gb250 ≠ gb243)); clear BK229; clear BK230; clear BK237; clear BK243; clear HB; have BK229 := n0_; have BK230 := n1_; have BK237 := n2_; have BK243 := n3_; have HB := n4_; have BK250 := n5_; have GW250 := n6_; have GE250 := n7_; have NB229_250 := n8_; have NB250_229 := n9_; have NB230_250 := n10_; have NB250_230 := n11_; have NB237_250 := n12_; have NB250_237 := n13_; have NB243_250 := n14_; have NB250_243 := n15_; clear n0_ n1_ n2_ n3_ n4_ n5_ n6_ n7_ n8_ n9_ n10_ n11_ n12_ n13_ n14_ n15_; clear hb hbox hg; have hnb124 := NB250_229.out; have hnc124 := NB229_250.out; have hnb125 := NB250_230.out; have hnc125 := NB230_250.out; have hnb126 := NB250_237.out; have hnc126 := NB237_250.out; have hnb127 := NB250_243.out; have hnc127 := NB243_250.out; obtain ⟨hcz128_0, hcz128_1⟩ := hc2 BK250.out; obtain ⟨hfz128_0, hfz128_1⟩ := hf2 BK250.out; obtain ⟨hcz129_0, hcz129_1, hcz129_2, hcz129_3, hcz129_4⟩ := hc5 BK243.out; obtain ⟨hfz129_0, hfz129_1, hfz129_2, hfz129_3, hfz129_4⟩ := hf5 BK243.out; obtain ⟨hcz130_0, hcz130_1, hcz130_2, hcz130_3, hcz130_4⟩ := hc5 BK237.out; obtain ⟨hfz130_0, hfz130_1, hfz130_2, hfz130_3, hfz130_4⟩ := hf5 BK237.out) | ((with_reducible refine gate_callee (f := 50) rfl ?_); refine goesL_ (some 80) rfl rfl Tryd.func50 (by kernel_rfl) rfl #[.int .i64 x244002_4, .int .i64 x238002_31] rfl (by (try simp only [List.map_toArray, List.map_cons, List.map_nil]); first | done | rfl | (simp only [List.length_drop, List.length_take]; rfl)) ?_; (with_reducible refine (drachmref01_Mul.calls k4 x244002_4 x238002_31 t251 t252 _ A58.out).mono ?_); rintro e w131 ⟨rfl, hb⟩; refine ⟨_, rfl, ?_⟩; replace BK229 := Aside0.mk (blk_below (kp BK229.out) hb); replace BK230 := Aside0.mk (blk_below (kp BK230.out) hb); replace BK237 := Aside0.mk (blk_below (kp BK237.out) hb); replace BK243 := Aside0.mk (blk_below (kp BK243.out) hb); replace BK250 := Aside0.mk (blk_below (kp (p2_1 (kp (p2_0 (kp BK250.out))))) hb); replace HB := Aside0.mk (below_step (bl HB.out) hb); (try clear hb); (try clear hb2); (try clear hk); (try clear hi)) | ((with_reducible refine gate_dst (N := 11) rfl ?_); refine box_event ?hg (N := 11) ?hd (cs := #[.int .i64 0, .bool false]) (t := 89) ?hr ?_; (case hd => rfl); (case hg => rfl); (case hr => first | (go_simp; done) | (go_simp; rfl)); intro gb253 hg w132 hbox hb; have n0_ := Aside0.mk (blk_below (kp BK229.out) hb); have n1_ := Aside0.mk (blk_below (kp BK230.out) hb); have n2_ := Aside0.mk (blk_below (kp BK237.out) hb); have n3_ := Aside0.mk (blk_below (kp BK243.out) hb); have n4_ := Aside0.mk (blk_below (kp BK250.out) hb); have n5_ := Aside0.mk (below_step (bl HB.out) hb); have n6_ := Aside0.mk (hbox); have n7_ := Aside0.mk ((by rw [hg]; exact (below_size (bl HB.out)) : w.heap.size ≤ gb253)); have n8_ := Aside0.mk ((by rw [hg]; exact (below_size (bl HB.out)) : w.heap.size ≤ gb253)); have n9_ := Aside0.mk ((by rw [hg]; exact Nat.ne_of_lt (blk_lt (kp BK229.out)) : gb229 ≠ gb253)); have n10_ := Aside0.mk ((by rw [hg]; exact Nat.ne_of_gt (blk_lt (kp BK229.out)) : gb253 ≠ gb229)); have n11_ := Aside0.mk ((by rw [hg]; exact Nat.ne_of_lt (blk_lt (kp BK230.out)) : gb230 ≠ gb253)); have n12_ := Aside0.mk ((by rw [hg]; exact Nat.ne_of_gt (blk_lt (kp BK230.out)) : gb253 ≠ gb230)); have n13_ := Aside0.mk ((by rw [hg]; exact Nat.ne_of_lt (blk_lt (kp BK237.out)) : gb237 ≠ gb253)); have n14_ := Aside0.mk ((by rw [hg]; exact Nat.ne_of_gt (blk_lt (kp BK237.out)) : gb253 ≠ gb237)); have n15_ := Aside0.mk ((by rw [hg]; exact Nat.ne_of_lt (blk_lt (kp BK243.out)) : gb243 ≠ gb253)); have n16_ := Aside0.mk ((by rw [hg]; exact Nat.ne_of_gt (blk_lt (kp BK243.out)) : gb253 ≠ gb243)); have n17_ := Aside0.mk ((by rw [hg]; exact Nat.ne_of_lt (blk_lt (kp BK250.out)) : gb250 ≠ gb253)); have n18_ := Aside0.mk ((by rw [hg]; exact Nat.ne_of_gt (blk_lt (kp BK250.out)) : gb253 ≠ gb250)); clear BK229; clear BK230; clear BK237; clear BK243; clear BK250; clear HB; have BK229 := n0_; have BK230 := n1_; have BK237 := n2_; have BK243 := n3_; have BK250 := n4_; have HB := n5_; have BK253 := n6_; have GW253 := n7_; have GE253 := n8_; have NB229_253 := n9_; have NB253_229 := n10_; have NB230_253 := n11_; have NB253_230 := n12_; have NB237_253 := n13_; have NB253_237 := n14_; have NB243_253 := n15_; have NB253_243 := n16_; have NB250_253 := n17_; have NB253_250 := n18_; clear n0_ n1_ n2_ n3_ n4_ n5_ n6_ n7_ n8_ n9_ n10_ n11_ n12_ n13_ n14_ n15_ n16_ n17_ n18_; clear hb hbox hg; have hnb133 := NB253_229.out; have hnc133 := NB229_253.out; have hnb134 := NB253_230.out; have hnc134 := NB230_253.out; have hnb135 := NB253_237.out; have hnc135 := NB237_253.out; have hnb136 := NB253_243.out; have hnc136 := NB243_253.out; have hnb137 := NB253_250.out; have hnc137 := NB250_253.out; obtain ⟨hcz138_0, hcz138_1⟩ := hc2 BK253.out; obtain ⟨hfz138_0, hfz138_1⟩ := hf2 BK253.out; obtain ⟨hcz139_0, hcz139_1⟩ := hc2 BK250.out; obtain ⟨hfz139_0, hfz139_1⟩ := hf2 BK250.out; have hnb140 := NB230_229.out; have hnc140 := NB229_230.out; obtain ⟨hcz141_0, hcz141_1, hcz141_2, hcz141_3⟩ := hc4 BK230.out; obtain ⟨hfz141_0, hfz141_1, hfz141_2, hfz141_3⟩ := hf4 BK230.out))
               refine bodyPost_ret (results_cell_row rfl _ _ gb230 30 #[.int .i64 0, .int .i64 0, .int .i64 0, .int .i64 10] (0, 0) _ rfl (kp (p4_3 (kp (p4_2 (kp (p4_1 (kp (p4_0 (kp BK230.out))))))))) Tryd.underlying30 rfl (by kernel_rfl)) rfl ?_
               exact ⟨by first | rfl | (simp [errW_none, errW_some] <;> rfl) | (simp [*, errW_none, errW_some] <;> rfl), bl HB.out⟩
             ·rw [if_neg c56] at H
              have c56b0 : decide (x9_4 < x1_31) = false := decide_eq_false c56
              clear c56
              replace H := Option.bind_eq_some_iff.mp H
              obtain ⟨⟨t244, t245, t246, t247⟩, A1420, H⟩ := H
              replace H : (some (t244, t245, t246, t247)) = some (r1, r2, r3, r4) := H
              have A142 := Aside0.mk A1420
              clear A1420
              simp only [Option.some.injEq, Prod.mk.injEq] at H
              obtain ⟨rfl, rfl, rfl, rfl⟩ := H
              have hnb143 := NB243_229.out
              have hnc143 := NB229_243.out
              have hnb144 := NB243_230.out
              have hnc144 := NB230_243.out
              have hnb145 := NB243_237.out
              have hnc145 := NB237_243.out
              obtain ⟨hcz146_0, hcz146_1, hcz146_2, hcz146_3, hcz146_4⟩ := hc5 BK243.out
              obtain ⟨hfz146_0, hfz146_1, hfz146_2, hfz146_3, hfz146_4⟩ := hf5 BK243.out
              go_wp2_with (first | ((with_reducible refine gate_callee (f := 29) rfl ?_); refine goesL_ (some 104) rfl rfl Tryd.func29 (by kernel_rfl) rfl #[.agg #[.int .i64 x244000_4, .int .i64 x244001_4, .int .i64 x244002_4, .int .i64 (wrap64 (x238003_31 * x1_31)), .int .i64 (wrap64 (x238004_31 * x1_31))], .int .i64 (wrap64 (a0_2 * a1))] rfl (by (try simp only [List.map_toArray, List.map_cons, List.map_nil]); first | done | rfl | (simp only [List.length_drop, List.length_take]; rfl)) ?_; (with_reducible refine (drachmref02_form.calls k4 x244000_4 x244001_4 x244002_4 (wrap64 (x238003_31 * x1_31)) (wrap64 (x238004_31 * x1_31)) (wrap64 (a0_2 * a1)) t244 t245 t246 t247 _ A142.out).mono ?_); rintro e w147 ⟨rfl, hb⟩; refine ⟨_, rfl, ?_⟩; replace BK229 := Aside0.mk (blk_below (kp BK229.out) hb); replace BK230 := Aside0.mk (blk_below (kp BK230.out) hb); replace BK237 := Aside0.mk (blk_below (kp BK237.out) hb); replace BK243 := Aside0.mk (blk_below (kp BK243.out) hb); replace HB := Aside0.mk (below_step (bl HB.out) hb); (try clear hb); (try clear hb2); (try clear hk); (try clear hi); have hnb148 := NB230_229.out; have hnc148 := NB229_230.out; have hnb149 := NB230_237.out; have hnc149 := NB237_230.out; obtain ⟨hcz150_0, hcz150_1, hcz150_2, hcz150_3⟩ := hc4 BK230.out; obtain ⟨hfz150_0, hfz150_1, hfz150_2, hfz150_3⟩ := hf4 BK230.out))
              refine bodyPost_ret (results_cell_row rfl _ _ gb230 30 #[.int .i64 t244, .int .i64 t245, .int .i64 t246, .int .i64 t247] (0, 0) _ rfl (kp (p4_3 (kp (p4_2 (kp (p4_1 (kp (p4_0 (kp BK230.out))))))))) Tryd.underlying30 rfl (by kernel_rfl)) rfl ?_
              exact ⟨by first | rfl | (simp [errW_none, errW_some] <;> rfl) | (simp [*, errW_none, errW_some] <;> rfl), bl HB.out⟩

/-! ### drachmlaw02_Spec_frac: function 15 -/
def drachmlaw02_Spec_frac.f (k : Nat) (a0_0 : Int) (a0_1 : Int) (a0_2 : Int) : Option (Int × Int × Int) := (drachmref02_Make.f k a0_0 a0_1 a0_2).bind fun bt256 => (if bt256.2.2.2 = 0 then (some (bt256.1, bt256.2.1, bt256.2.2.1)) else (some (1, 1, 0)))
theorem drachmlaw02_Spec_frac.mono : ∀ a0 a1 a2 k, LeO (drachmlaw02_Spec_frac.f k a0 a1 a2) (drachmlaw02_Spec_frac.f (k + 1) a0 a1 a2) := by
 intro a0 a1 a2 k
 unfold drachmlaw02_Spec_frac.f
 repeat' first
   | (with_reducible exact drachmref02_Make.mono _ _ _ _)
   | (with_reducible exact LeO.refl _)
   | (with_reducible exact LeO.none _)
   | (with_reducible refine LeO.ite ?_ ?_)
   | (with_reducible refine LeO.bind ?_ (fun _ => ?_))
   | exact drachmref02_Make.mono _ _ _ _
   | exact LeO.none _
   | refine LeO.ite ?_ ?_
   | refine LeO.bind ?_ (fun _ => ?_)
set_option maxHeartbeats 8000000 in
set_option maxRecDepth 100000 in
theorem drachmlaw02_Spec_frac.calls (k : Nat) (a0_0 : Int) (a0_1 : Int) (a0_2 : Int) (r1 : Int) (r2 : Int) (r3 : Int) (w : World) (h : drachmlaw02_Spec_frac.f k a0_0 a0_1 a0_2 = some (r1, r2, r3)) :
  Calls Tryd.prog 15 #[.agg #[.int .i64 a0_0, .int .i64 a0_1, .int .i64 a0_2]] w fun e w' => e = .returned (.agg #[.int .i64 r1, .int .i64 r2, .int .i64 r3]) ∧ Below w.heap.size w w' := by
 have hu23 := Tryd.underlying23
 have hu24 := Tryd.underlying24
 have hu30 := Tryd.underlying30
 have HB := Aside0.mk (Below.refl w.heap.size w)
 have H : ((drachmref02_Make.f k a0_0 a0_1 a0_2).bind fun bt256 => (if bt256.2.2.2 = 0 then (some (bt256.1, bt256.2.1, bt256.2.2.1)) else (some (1, 1, 0)))) = some (r1, r2, r3) := h
 clear h
 replace H := Option.bind_eq_some_iff.mp H
 obtain ⟨⟨t256, t257, t258, t259⟩, A20, H⟩ := H
 replace H : (if t259 = 0 then (some (t256, t257, t258)) else (some (1, 1, 0))) = some (r1, r2, r3) := H
 have A2 := Aside0.mk A20
 clear A20
 by_cases c3 : t259 = 0
 ·rw [if_pos c3] at H
  have c3b0 : (t259 == 0) = true := beq_iff_eq.mpr c3
  have c3b1 : (t259 != 0) = false := bne_eq_false_iff_eq.mpr c3
  clear c3
  simp only [Option.some.injEq, Prod.mk.injEq] at H
  obtain ⟨rfl, rfl, rfl⟩ := H
  go_enter Tryd.func15, Tryd.ntmps15
  go_wp2_with (first | ((with_reducible refine gate_dst (N := 1) rfl ?_); refine box_event ?hg (N := 1) ?hd (cs := #[.int .i64 a0_0, .int .i64 a0_1, .int .i64 a0_2]) (t := 23) ?hr ?_; (case hd => rfl); (case hg => rfl); (case hr => first | (go_simp; done) | (go_simp; rfl)); intro gb254 hg w4 hbox hb; have n0_ := Aside0.mk (below_step (bl HB.out) hb); have n1_ := Aside0.mk (hbox); have n2_ := Aside0.mk ((by rw [hg]; exact (below_size (bl HB.out)) : w.heap.size ≤ gb254)); have n3_ := Aside0.mk ((by rw [hg]; exact (below_size (bl HB.out)) : w.heap.size ≤ gb254)); clear HB; have HB := n0_; have BK254 := n1_; have GW254 := n2_; have GE254 := n3_; clear n0_ n1_ n2_ n3_; clear hb hbox hg) | ((with_reducible refine gate_dst (N := 2) rfl ?_); refine box_event ?hg (N := 2) ?hd (cs := #[.int .i64 0, .int .i64 0, .int .i64 0]) (t := 24) ?hr ?_; (case hd => rfl); (case hg => rfl); (case hr => first | (go_simp; done) | (go_simp; rfl)); intro gb255 hg w5 hbox hb; have n0_ := Aside0.mk (blk_below (kp BK254.out) hb); have n1_ := Aside0.mk (below_step (bl HB.out) hb); have n2_ := Aside0.mk (hbox); have n3_ := Aside0.mk ((by rw [hg]; exact (below_size (bl HB.out)) : w.heap.size ≤ gb255)); have n4_ := Aside0.mk ((by rw [hg]; exact (below_size (bl HB.out)) : w.heap.size ≤ gb255)); have n5_ := Aside0.mk ((by rw [hg]; exact Nat.ne_of_lt (blk_lt (kp BK254.out)) : gb254 ≠ gb255)); have n6_ := Aside0.mk ((by rw [hg]; exact Nat.ne_of_gt (blk_lt (kp BK254.out)) : gb255 ≠ gb254)); clear BK254; clear HB; have BK254 := n0_; have HB := n1_; have BK255 := n2_; have GW255 := n3_; have GE255 := n4_; have NB254_255 := n5_; have NB255_254 := n6_; clear n0_ n1_ n2_ n3_ n4_ n5_ n6_; clear hb hbox hg; have hnb6 := NB254_255.out; have hnc6 := NB255_254.out; obtain ⟨hcz7_0, hcz7_1, hcz7_2⟩ := hc3 BK254.out; obtain ⟨hfz7_0, hfz7_1, hfz7_2⟩ := hf3 BK254.out) | ((with_reducible refine gate_callee (f := 12) rfl ?_); refine goesL_ (some 10) rfl rfl Tryd.func12 (by kernel_rfl) rfl #[.int .i64 a0_0, .int .i64 a0_1, .int .i64 a0_2] rfl (by (try simp only [List.map_toArray, List.map_cons, List.map_nil]); first | done | rfl | (simp only [List.length_drop, List.length_take]; rfl)) ?_; (with_reducible refine (drachmref02_Make.calls k a0_0 a0_1 a0_2 t256 t257 t258 t259 _ A2.out).mono ?_); rintro e w8 ⟨rfl, hb⟩; refine ⟨_, rfl, ?_⟩; replace BK254 := Aside0.mk (blk_below (kp BK254.out) hb); replace BK255 := Aside0.mk (blk_below (kp BK255.out) hb); replace HB := Aside0.mk (below_step (bl HB.out) hb); (try clear hb); (try clear hb2); (try clear hk); (try clear hi)) | ((with_reducible refine gate_dst (N := 3) rfl ?_); refine box_event ?hg (N := 3) ?hd (cs := #[.int .i64 0, .int .i64 0, .int .i64 0, .int .i64 0]) (t := 30) ?hr ?_; (case hd => rfl); (case hg => rfl); (case hr => first | (go_simp; done) | (go_simp; rfl)); intro gb260 hg w9 hbox hb; have n0_ := Aside0.mk (blk_below (kp BK254.out) hb); have n1_ := Aside0.mk (blk_below (kp BK255.out) hb); have n2_ := Aside0.mk (below_step (bl HB.out) hb); have n3_ := Aside0.mk (hbox); have n4_ := Aside0.mk ((by rw [hg]; exact (below_size (bl HB.out)) : w.heap.size ≤ gb260)); have n5_ := Aside0.mk ((by rw [hg]; exact (below_size (bl HB.out)) : w.heap.size ≤ gb260)); have n6_ := Aside0.mk ((by rw [hg]; exact Nat.ne_of_lt (blk_lt (kp BK254.out)) : gb254 ≠ gb260)); have n7_ := Aside0.mk ((by rw [hg]; exact Nat.ne_of_gt (blk_lt (kp BK254.out)) : gb260 ≠ gb254)); have n8_ := Aside0.mk ((by rw [hg]; exact Nat.ne_of_lt (blk_lt (kp BK255.out)) : gb255 ≠ gb260)); have n9_ := Aside0.mk ((by rw [hg]; exact Nat.ne_of_gt (blk_lt (kp BK255.out)) : gb260 ≠ gb255)); clear BK254; clear BK255; clear HB; have BK254 := n0_; have BK255 := n1_; have HB := n2_; have BK260 := n3_; have GW260 := n4_; have GE260 := n5_; have NB254_260 := n6_; have NB260_254 := n7_; have NB255_260 := n8_; have NB260_255 := n9_; clear n0_ n1_ n2_ n3_ n4_ n5_ n6_ n7_ n8_ n9_; clear hb hbox hg; have hnb10 := NB260_254.out; have hnc10 := NB254_260.out; have hnb11 := NB260_255.out; have hnc11 := NB255_260.out; obtain ⟨hcz12_0, hcz12_1, hcz12_2, hcz12_3⟩ := hc4 BK260.out; obtain ⟨hfz12_0, hfz12_1, hfz12_2, hfz12_3⟩ := hf4 BK260.out; obtain ⟨hcz13_0, hcz13_1, hcz13_2⟩ := hc3 BK255.out; obtain ⟨hfz13_0, hfz13_1, hfz13_2⟩ := hf3 BK255.out))
  refine bodyPost_ret (results_cell_row rfl _ _ gb255 24 #[.int .i64 t256, .int .i64 t257, .int .i64 t258] (0, 0) _ rfl (kp (p3_2 (kp (p3_1 (kp (p3_0 (kp BK255.out))))))) Tryd.underlying24 rfl (by kernel_rfl)) rfl ?_
  exact ⟨by first | rfl | (simp [errW_none, errW_some] <;> rfl) | (simp [*, errW_none, errW_some] <;> rfl), bl HB.out⟩
 ·rw [if_neg c3] at H
  have c3b0 : (t259 == 0) = false := beq_eq_false_iff_ne.mpr c3
  have c3b1 : (t259 != 0) = true := bne_iff_ne.mpr c3
  simp only [Option.some.injEq, Prod.mk.injEq] at H
  obtain ⟨rfl, rfl, rfl⟩ := H
  go_enter Tryd.func15, Tryd.ntmps15
  go_wp2_with (first | ((with_reducible refine gate_dst (N := 1) rfl ?_); refine box_event ?hg (N := 1) ?hd (cs := #[.int .i64 a0_0, .int .i64 a0_1, .int .i64 a0_2]) (t := 23) ?hr ?_; (case hd => rfl); (case hg => rfl); (case hr => first | (go_simp; done) | (go_simp; rfl)); intro gb254 hg w14 hbox hb; have n0_ := Aside0.mk (below_step (bl HB.out) hb); have n1_ := Aside0.mk (hbox); have n2_ := Aside0.mk ((by rw [hg]; exact (below_size (bl HB.out)) : w.heap.size ≤ gb254)); have n3_ := Aside0.mk ((by rw [hg]; exact (below_size (bl HB.out)) : w.heap.size ≤ gb254)); clear HB; have HB := n0_; have BK254 := n1_; have GW254 := n2_; have GE254 := n3_; clear n0_ n1_ n2_ n3_; clear hb hbox hg) | ((with_reducible refine gate_dst (N := 2) rfl ?_); refine box_event ?hg (N := 2) ?hd (cs := #[.int .i64 0, .int .i64 0, .int .i64 0]) (t := 24) ?hr ?_; (case hd => rfl); (case hg => rfl); (case hr => first | (go_simp; done) | (go_simp; rfl)); intro gb255 hg w15 hbox hb; have n0_ := Aside0.mk (blk_below (kp BK254.out) hb); have n1_ := Aside0.mk (below_step (bl HB.out) hb); have n2_ := Aside0.mk (hbox); have n3_ := Aside0.mk ((by rw [hg]; exact (below_size (bl HB.out)) : w.heap.size ≤ gb255)); have n4_ := Aside0.mk ((by rw [hg]; exact (below_size (bl HB.out)) : w.heap.size ≤ gb255)); have n5_ := Aside0.mk ((by rw [hg]; exact Nat.ne_of_lt (blk_lt (kp BK254.out)) : gb254 ≠ gb255)); have n6_ := Aside0.mk ((by rw [hg]; exact Nat.ne_of_gt (blk_lt (kp BK254.out)) : gb255 ≠ gb254)); clear BK254; clear HB; have BK254 := n0_; have HB := n1_; have BK255 := n2_; have GW255 := n3_; have GE255 := n4_; have NB254_255 := n5_; have NB255_254 := n6_; clear n0_ n1_ n2_ n3_ n4_ n5_ n6_; clear hb hbox hg; have hnb16 := NB254_255.out; have hnc16 := NB255_254.out; obtain ⟨hcz17_0, hcz17_1, hcz17_2⟩ := hc3 BK254.out; obtain ⟨hfz17_0, hfz17_1, hfz17_2⟩ := hf3 BK254.out) | ((with_reducible refine gate_callee (f := 12) rfl ?_); refine goesL_ (some 10) rfl rfl Tryd.func12 (by kernel_rfl) rfl #[.int .i64 a0_0, .int .i64 a0_1, .int .i64 a0_2] rfl (by (try simp only [List.map_toArray, List.map_cons, List.map_nil]); first | done | rfl | (simp only [List.length_drop, List.length_take]; rfl)) ?_; (with_reducible refine (drachmref02_Make.calls k a0_0 a0_1 a0_2 t256 t257 t258 t259 _ A2.out).mono ?_); rintro e w18 ⟨rfl, hb⟩; refine ⟨_, rfl, ?_⟩; replace BK254 := Aside0.mk (blk_below (kp BK254.out) hb); replace BK255 := Aside0.mk (blk_below (kp BK255.out) hb); replace HB := Aside0.mk (below_step (bl HB.out) hb); (try clear hb); (try clear hb2); (try clear hk); (try clear hi)) | ((with_reducible refine gate_dst (N := 3) rfl ?_); refine box_event ?hg (N := 3) ?hd (cs := #[.int .i64 0, .int .i64 0, .int .i64 0, .int .i64 0]) (t := 30) ?hr ?_; (case hd => rfl); (case hg => rfl); (case hr => first | (go_simp; done) | (go_simp; rfl)); intro gb260 hg w19 hbox hb; have n0_ := Aside0.mk (blk_below (kp BK254.out) hb); have n1_ := Aside0.mk (blk_below (kp BK255.out) hb); have n2_ := Aside0.mk (below_step (bl HB.out) hb); have n3_ := Aside0.mk (hbox); have n4_ := Aside0.mk ((by rw [hg]; exact (below_size (bl HB.out)) : w.heap.size ≤ gb260)); have n5_ := Aside0.mk ((by rw [hg]; exact (below_size (bl HB.out)) : w.heap.size ≤ gb260)); have n6_ := Aside0.mk ((by rw [hg]; exact Nat.ne_of_lt (blk_lt (kp BK254.out)) : gb254 ≠ gb260)); have n7_ := Aside0.mk ((by rw [hg]; exact Nat.ne_of_gt (blk_lt (kp BK254.out)) : gb260 ≠ gb254)); have n8_ := Aside0.mk ((by rw [hg]; exact Nat.ne_of_lt (blk_lt (kp BK255.out)) : gb255 ≠ gb260)); have n9_ := Aside0.mk ((by rw [hg]; exact Nat.ne_of_gt (blk_lt (kp BK255.out)) : gb260 ≠ gb255)); clear BK254; clear BK255; clear HB; have BK254 := n0_; have BK255 := n1_; have HB := n2_; have BK260 := n3_; have GW260 := n4_; have GE260 := n5_; have NB254_260 := n6_; have NB260_254 := n7_; have NB255_260 := n8_; have NB260_255 := n9_; clear n0_ n1_ n2_ n3_ n4_ n5_ n6_ n7_ n8_ n9_; clear hb hbox hg; have hnb20 := NB260_254.out; have hnc20 := NB254_260.out; have hnb21 := NB260_255.out; have hnc21 := NB255_260.out; obtain ⟨hcz22_0, hcz22_1, hcz22_2, hcz22_3⟩ := hc4 BK260.out; obtain ⟨hfz22_0, hfz22_1, hfz22_2, hfz22_3⟩ := hf4 BK260.out; obtain ⟨hcz23_0, hcz23_1, hcz23_2⟩ := hc3 BK255.out; obtain ⟨hfz23_0, hfz23_1, hfz23_2⟩ := hf3 BK255.out))
  refine bodyPost_ret (results_cell_row rfl _ _ gb255 24 #[.int .i64 1, .int .i64 1, .int .i64 0] (0, 0) _ rfl (kp (p3_2 (kp (p3_1 (kp (p3_0 (kp BK255.out))))))) Tryd.underlying24 rfl (by kernel_rfl)) rfl ?_
  exact ⟨by first | rfl | (simp [errW_none, errW_some] <;> rfl) | (simp [*, errW_none, errW_some] <;> rfl), bl HB.out⟩

end Go.Proofs.YtnndaackjgnhhaaDoor.PB
