/- Printed by a program of this session (wip/tools/prt.py) out of the translation: plain functions, and that the calls come to just them. No conditions beyond those that stand in each theorem. -/
import Derived.Test.YtnndaackjgnhhaaDoorGlob
import Derived.Test.YtnndaackjgnhhaaDoorPDx0
import Derived.Test.YtnndaackjgnhhaaDoorPDx1
import Derived.Test.YtnndaackjgnhhaaDoorPDx2
namespace Go.Proofs.YtnndaackjgnhhaaDoor.PD
open Go.Proofs.YtnndaackjgnhhaaDoor.Sq Go.RowKit Go.Proofs.YtnndaackjgnhhaaDoorW.PrintWords Go.Proofs.YtnndaackjgnhhaaDoorW.PrintLast Go.Proofs.YtnndaackjgnhhaaDoorW.PrintMore Go.Proofs.YtnndaackjgnhhaaDoor.PB Go.Proofs.YtnndaackjgnhhaaDoor.PC
attribute [local go_sem] max2_int min2_int max_two min_two max_three min_three max_four min_four   -- for this text's walks alone
set_option linter.unusedVariables false
set_option linter.unusedSimpArgs false

attribute [local go_sem high] eqA24
/-! ### frac_Pow: function 19 -/
mutual
def frac_Pow.j0 : Nat → Int → Bool → Int → Int → Int → Option (Int × Int × Int × Int)
 | 0, _, _, _, _, _ => none
 | k + 1, x1, x10, x164000, x164001, x164002 => if x10 = true then (some (0, 0, 0, 1)) else (if x164000 = 0 then (frac_Pow.j1 k x1 (decide (x1 < 0)) x164000 x164001 x164002) else (frac_Pow.j1 k x1 false x164000 x164001 x164002))
def frac_Pow.j1 : Nat → Int → Bool → Int → Int → Int → Option (Int × Int × Int × Int)
 | 0, _, _, _, _, _ => none
 | k + 1, x1, x23, x164000, x164001, x164002 => if x23 = true then (some (0, 0, 0, 11)) else (if x1 = 0 then (some (1, 1, 0, 0)) else (if x164000 = 0 then (some (x164000, x164001, x164002, 0)) else ((frac_loosen.f k x164000 x164001).bind fun bt166 => (if x1 < 0 then ((frac_loose_turned.f k bt166.1 bt166.2.1 bt166.2.2.1 bt166.2.2.2).bind fun bt171 => (frac_Pow.j2 k (wrap64 (-x1)) (wrap64 (x164002 * x1)) bt171.1 bt171.2.1 bt171.2.2.1 bt171.2.2.2)) else (frac_Pow.j2 k x1 (wrap64 (x164002 * x1)) bt166.1 bt166.2.1 bt166.2.2.1 bt166.2.2.2)))))
def frac_Pow.j2 : Nat → Int → Int → Int → Int → Int → Int → Option (Int × Int × Int × Int)
 | 0, _, _, _, _, _, _ => none
 | k + 1, x1, x7, x171000, x171001, x171002, x171003 => frac_Pow.l0 k x7 x1 0 x171000 x171001 x171002 x171003 1 1 0 0
def frac_Pow.l0 : Nat → Int → Int → Int → Int → Int → Int → Int → Int → Int → Int → Int → Option (Int × Int × Int × Int)
 | 0, _, _, _, _, _, _, _, _, _, _, _ => none
 | k + 1, x7, x57, x58, x171000, x171001, x171002, x171003, x176000, x176001, x176002, x176003 => if x58 < x57 then ((frac_loose_times.f k x176000 x176001 x176002 x176003 x171000 x171001 x171002 x171003).bind fun bt176 => (if bt176.2.2.2.2 = true then (frac_Pow.l0 k x7 x57 (wrap64 (x58 + 1)) x171000 x171001 x171002 x171003 bt176.1 bt176.2.1 bt176.2.2.1 bt176.2.2.2.1) else (some (0, 0, 0, 10)))) else ((frac_loose_form.f k x176000 x176001 x176002 x176003 x7).bind fun bt181 => (some (bt181.1, bt181.2.1, bt181.2.2.1, bt181.2.2.2)))
end
def frac_Pow.f (k : Nat) (a0_0 : Int) (a0_1 : Int) (a0_2 : Int) (a1 : Int) : Option (Int × Int × Int × Int) := (frac_Right.f k a0_0 a0_1 a0_2).bind fun t165 => (if t165 = true then (if a1 < (-99) then (frac_Pow.j0 k a1 true a0_0 a0_1 a0_2) else (frac_Pow.j0 k a1 (decide (a1 > 99)) a0_0 a0_1 a0_2)) else (frac_Pow.j0 k a1 true a0_0 a0_1 a0_2))
theorem frac_Pow.mono_l : ∀ k, (∀ y0 y1 y2 y3 y4, LeO (frac_Pow.j0 k y0 y1 y2 y3 y4) (frac_Pow.j0 (k + 1) y0 y1 y2 y3 y4)) ∧ (∀ y0 y1 y2 y3 y4, LeO (frac_Pow.j1 k y0 y1 y2 y3 y4) (frac_Pow.j1 (k + 1) y0 y1 y2 y3 y4)) ∧ (∀ y0 y1 y2 y3 y4 y5, LeO (frac_Pow.j2 k y0 y1 y2 y3 y4 y5) (frac_Pow.j2 (k + 1) y0 y1 y2 y3 y4 y5)) ∧ (∀ y0 y1 y2 y3 y4 y5 y6 y7 y8 y9 y10, LeO (frac_Pow.l0 k y0 y1 y2 y3 y4 y5 y6 y7 y8 y9 y10) (frac_Pow.l0 (k + 1) y0 y1 y2 y3 y4 y5 y6 y7 y8 y9 y10))
 | 0 => ⟨fun _ _ _ _ _ r h => by simp [frac_Pow.j0] at h, fun _ _ _ _ _ r h => by simp [frac_Pow.j1] at h, fun _ _ _ _ _ _ r h => by simp [frac_Pow.j2] at h, fun _ _ _ _ _ _ _ _ _ _ _ r h => by simp [frac_Pow.l0] at h⟩
 | k + 1 => by
  obtain ⟨ih0, ih1, ih2, ih3⟩ := frac_Pow.mono_l k
  refine ⟨?_, ?_, ?_, ?_⟩
  ·intro y0 y1 y2 y3 y4
   unfold frac_Pow.j0
   repeat' first
   | (with_reducible exact ih0 _ _ _ _ _)
   | (with_reducible exact ih1 _ _ _ _ _)
   | (with_reducible exact ih2 _ _ _ _ _ _)
   | (with_reducible exact ih3 _ _ _ _ _ _ _ _ _ _ _)
   | (with_reducible exact frac_Right.mono _ _ _ _)
   | (with_reducible exact frac_loose_form.mono _ _ _ _ _ _)
   | (with_reducible exact frac_loose_times.mono _ _ _ _ _ _ _ _ _)
   | (with_reducible exact frac_loose_turned.mono _ _ _ _ _)
   | (with_reducible exact frac_loosen.mono _ _ _)
   | (with_reducible exact LeO.refl _)
   | (with_reducible exact LeO.none _)
   | (with_reducible refine LeO.ite ?_ ?_)
   | (with_reducible refine LeO.bind ?_ (fun _ => ?_))
   | exact ih0 _ _ _ _ _
   | exact ih1 _ _ _ _ _
   | exact ih2 _ _ _ _ _ _
   | exact ih3 _ _ _ _ _ _ _ _ _ _ _
   | exact frac_Right.mono _ _ _ _
   | exact frac_loose_form.mono _ _ _ _ _ _
   | exact frac_loose_times.mono _ _ _ _ _ _ _ _ _
   | exact frac_loose_turned.mono _ _ _ _ _
   | exact frac_loosen.mono _ _ _
   | exact LeO.none _
   | refine LeO.ite ?_ ?_
   | refine LeO.bind ?_ (fun _ => ?_)
  ·intro y0 y1 y2 y3 y4
   unfold frac_Pow.j1
   repeat' first
   | (with_reducible exact ih0 _ _ _ _ _)
   | (with_reducible exact ih1 _ _ _ _ _)
   | (with_reducible exact ih2 _ _ _ _ _ _)
   | (with_reducible exact ih3 _ _ _ _ _ _ _ _ _ _ _)
   | (with_reducible exact frac_Right.mono _ _ _ _)
   | (with_reducible exact frac_loose_form.mono _ _ _ _ _ _)
   | (with_reducible exact frac_loose_times.mono _ _ _ _ _ _ _ _ _)
   | (with_reducible exact frac_loose_turned.mono _ _ _ _ _)
   | (with_reducible exact frac_loosen.mono _ _ _)
   | (with_reducible exact LeO.refl _)
   | (with_reducible exact LeO.none _)
   | (with_reducible refine LeO.ite ?_ ?_)
   | (with_reducible refine LeO.bind ?_ (fun _ => ?_))
   | exact ih0 _ _ _ _ _
   | exact ih1 _ _ _ _ _
   | exact ih2 _ _ _ _ _ _
   | exact ih3 _ _ _ _ _ _ _ _ _ _ _
   | exact frac_Right.mono _ _ _ _
   | exact frac_loose_form.mono _ _ _ _ _ _
   | exact frac_loose_times.mono _ _ _ _ _ _ _ _ _
   | exact frac_loose_turned.mono _ _ _ _ _
   | exact frac_loosen.mono _ _ _
   | exact LeO.none _
   | refine LeO.ite ?_ ?_
   | refine LeO.bind ?_ (fun _ => ?_)
  ·intro y0 y1 y2 y3 y4 y5
   unfold frac_Pow.j2
   repeat' first
   | (with_reducible exact ih0 _ _ _ _ _)
   | (with_reducible exact ih1 _ _ _ _ _)
   | (with_reducible exact ih2 _ _ _ _ _ _)
   | (with_reducible exact ih3 _ _ _ _ _ _ _ _ _ _ _)
   | (with_reducible exact frac_Right.mono _ _ _ _)
   | (with_reducible exact frac_loose_form.mono _ _ _ _ _ _)
   | (with_reducible exact frac_loose_times.mono _ _ _ _ _ _ _ _ _)
   | (with_reducible exact frac_loose_turned.mono _ _ _ _ _)
   | (with_reducible exact frac_loosen.mono _ _ _)
   | (with_reducible exact LeO.refl _)
   | (with_reducible exact LeO.none _)
   | (with_reducible refine LeO.ite ?_ ?_)
   | (with_reducible refine LeO.bind ?_ (fun _ => ?_))
   | exact ih0 _ _ _ _ _
   | exact ih1 _ _ _ _ _
   | exact ih2 _ _ _ _ _ _
   | exact ih3 _ _ _ _ _ _ _ _ _ _ _
   | exact frac_Right.mono _ _ _ _
   | exact frac_loose_form.mono _ _ _ _ _ _
   | exact frac_loose_times.mono _ _ _ _ _ _ _ _ _
   | exact frac_loose_turned.mono _ _ _ _ _
   | exact frac_loosen.mono _ _ _
   | exact LeO.none _
   | refine LeO.ite ?_ ?_
   | refine LeO.bind ?_ (fun _ => ?_)
  ·intro y0 y1 y2 y3 y4 y5 y6 y7 y8 y9 y10
   unfold frac_Pow.l0
   repeat' first
   | (with_reducible exact ih0 _ _ _ _ _)
   | (with_reducible exact ih1 _ _ _ _ _)
   | (with_reducible exact ih2 _ _ _ _ _ _)
   | (with_reducible exact ih3 _ _ _ _ _ _ _ _ _ _ _)
   | (with_reducible exact frac_Right.mono _ _ _ _)
   | (with_reducible exact frac_loose_form.mono _ _ _ _ _ _)
   | (with_reducible exact frac_loose_times.mono _ _ _ _ _ _ _ _ _)
   | (with_reducible exact frac_loose_turned.mono _ _ _ _ _)
   | (with_reducible exact frac_loosen.mono _ _ _)
   | (with_reducible exact LeO.refl _)
   | (with_reducible exact LeO.none _)
   | (with_reducible refine LeO.ite ?_ ?_)
   | (with_reducible refine LeO.bind ?_ (fun _ => ?_))
   | exact ih0 _ _ _ _ _
   | exact ih1 _ _ _ _ _
   | exact ih2 _ _ _ _ _ _
   | exact ih3 _ _ _ _ _ _ _ _ _ _ _
   | exact frac_Right.mono _ _ _ _
   | exact frac_loose_form.mono _ _ _ _ _ _
   | exact frac_loose_times.mono _ _ _ _ _ _ _ _ _
   | exact frac_loose_turned.mono _ _ _ _ _
   | exact frac_loosen.mono _ _ _
   | exact LeO.none _
   | refine LeO.ite ?_ ?_
   | refine LeO.bind ?_ (fun _ => ?_)
theorem frac_Pow.mono : ∀ a0 a1 a2 a3 k, LeO (frac_Pow.f k a0 a1 a2 a3) (frac_Pow.f (k + 1) a0 a1 a2 a3) := by
 intro a0 a1 a2 a3 k
 obtain ⟨ih0, ih1, ih2, ih3⟩ := frac_Pow.mono_l k
 unfold frac_Pow.f
 repeat' first
   | (with_reducible exact ih0 _ _ _ _ _)
   | (with_reducible exact ih1 _ _ _ _ _)
   | (with_reducible exact ih2 _ _ _ _ _ _)
   | (with_reducible exact ih3 _ _ _ _ _ _ _ _ _ _ _)
   | (with_reducible exact frac_Right.mono _ _ _ _)
   | (with_reducible exact frac_loose_form.mono _ _ _ _ _ _)
   | (with_reducible exact frac_loose_times.mono _ _ _ _ _ _ _ _ _)
   | (with_reducible exact frac_loose_turned.mono _ _ _ _ _)
   | (with_reducible exact frac_loosen.mono _ _ _)
   | (with_reducible exact LeO.refl _)
   | (with_reducible exact LeO.none _)
   | (with_reducible refine LeO.ite ?_ ?_)
   | (with_reducible refine LeO.bind ?_ (fun _ => ?_))
   | exact ih0 _ _ _ _ _
   | exact ih1 _ _ _ _ _
   | exact ih2 _ _ _ _ _ _
   | exact ih3 _ _ _ _ _ _ _ _ _ _ _
   | exact frac_Right.mono _ _ _ _
   | exact frac_loose_form.mono _ _ _ _ _ _
   | exact frac_loose_times.mono _ _ _ _ _ _ _ _ _
   | exact frac_loose_turned.mono _ _ _ _ _
   | exact frac_loosen.mono _ _ _
   | exact LeO.none _
   | refine LeO.ite ?_ ?_
   | refine LeO.bind ?_ (fun _ => ?_)
def frac_Pow.T9 : Bool × List (List Nat × List Nat) := (true, [([], []), ([0], [0]), ([], []), ([2], [2]), ([1, 3], [1, 3]), ([], []), ([5], [5]), ([], []), ([6, 7], [6, 7]), ([], []), ([9, 4, 4, 0, 1, 2, 3, 4, 9], [4, 9]), ([8, 10, 0, 1, 2, 3, 4, 5, 6, 7, 8, 9, 10], [8])])
def frac_Pow.B9 : List Nat := [0, 1, 0, 4, 15, 0, 32, 0, 224, 0, 543, 2047]
theorem frac_Pow.tab9 : rtab .any (opsOf Tryd.f19 9) = frac_Pow.T9 := by kernel_rfl
theorem frac_Pow.bits9 : waitsOk frac_Pow.T9.2 frac_Pow.B9 = true := by kernel_rfl
set_option maxHeartbeats 8000000 in
set_option maxRecDepth 100000 in
theorem frac_Pow.calls (k : Nat) (a0_0 : Int) (a0_1 : Int) (a0_2 : Int) (a1 : Int) (r1 : Int) (r2 : Int) (r3 : Int) (r4 : Int) (w : World) (hG : Glob [0, 1] w) (h : frac_Pow.f k a0_0 a0_1 a0_2 a1 = some (r1, r2, r3, r4)) :
  Calls Tryd.prog 19 #[.agg #[.int .i64 a0_0, .int .i64 a0_1, .int .i64 a0_2], .int .i64 a1] w fun e w' => e = .returned (.tuple #[.agg #[.int .i64 r1, .int .i64 r2, .int .i64 r3], .int .i64 r4]) ∧ Below w.heap.size w w' := by
 have hu24 := Tryd.underlying24
 have hu55 := Tryd.underlying55
 have HB := Aside0.mk (Below.refl w.heap.size w)
 have H : ((frac_Right.f k a0_0 a0_1 a0_2).bind fun t165 => (if t165 = true then (if a1 < (-99) then (frac_Pow.j0 k a1 true a0_0 a0_1 a0_2) else (frac_Pow.j0 k a1 (decide (a1 > 99)) a0_0 a0_1 a0_2)) else (frac_Pow.j0 k a1 true a0_0 a0_1 a0_2))) = some (r1, r2, r3, r4) := h
 clear h
 have HC3 := Aside0.mk H
 clear H
 go_enter Tryd.func19, Tryd.ntmps19
 go_upto_region 1 with (first | ((with_reducible refine gate_dst (N := 2) rfl ?_); refine box_event ?hg (N := 2) ?hd (cs := #[.int .i64 a0_0, .int .i64 a0_1, .int .i64 a0_2]) (t := 24) ?hr ?_; (case hd => rfl); (case hg => rfl); (case hr => first | (go_simp; done) | (go_simp; rfl)); intro gb163 hg w4 hbox hb; have n0_ := Aside0.mk (below_step (bl HB.out) hb); have n1_ := Aside0.mk (hbox); have n2_ := Aside0.mk ((by rw [hg]; exact (below_size (bl HB.out)) : w.heap.size ≤ gb163)); have n3_ := Aside0.mk ((by rw [hg]; exact (below_size (bl HB.out)) : w.heap.size ≤ gb163)); clear HB; have HB := n0_; have BK163 := n1_; have GW163 := n2_; have GE163 := n3_; clear n0_ n1_ n2_ n3_; clear hb hbox hg) | ((with_reducible refine gate_dst (N := 4) rfl ?_); refine box_event ?hg (N := 4) ?hd (cs := #[.int .i64 0, .int .i64 0, .int .i64 0]) (t := 24) ?hr ?_; (case hd => rfl); (case hg => rfl); (case hr => first | (go_simp; done) | (go_simp; rfl)); intro gb164 hg w5 hbox hb; have n0_ := Aside0.mk (blk_below (kp BK163.out) hb); have n1_ := Aside0.mk (below_step (bl HB.out) hb); have n2_ := Aside0.mk (hbox); have n3_ := Aside0.mk ((by rw [hg]; exact (below_size (bl HB.out)) : w.heap.size ≤ gb164)); have n4_ := Aside0.mk ((by rw [hg]; exact (below_size (bl HB.out)) : w.heap.size ≤ gb164)); have n5_ := Aside0.mk ((by rw [hg]; exact Nat.ne_of_lt (blk_lt (kp BK163.out)) : gb163 ≠ gb164)); have n6_ := Aside0.mk ((by rw [hg]; exact Nat.ne_of_gt (blk_lt (kp BK163.out)) : gb164 ≠ gb163)); clear BK163; clear HB; have BK163 := n0_; have HB := n1_; have BK164 := n2_; have GW164 := n3_; have GE164 := n4_; have NB163_164 := n5_; have NB164_163 := n6_; clear n0_ n1_ n2_ n3_ n4_ n5_ n6_; clear hb hbox hg))
 (try simp only [Act.put, List.setIfInBounds_toArray, List.set_cons_zero, List.set_cons_succ])
 go_cut [10] (fun v10 wc => ∃ (kq : Nat) (x10_2 : Bool), v10 = .bool x10_2 ∧ Aside0 (frac_Pow.j0 kq a1 x10_2 a0_0 a0_1 a0_2 = some (r1, r2, r3, r4)) ∧ Aside0 (kq ≤ k) ∧ Aside0 (wc.heap[gb163]? = some (.cells #[.int .i64 a0_0, .int .i64 a0_1, .int .i64 a0_2] 24 (0, 0))) ∧ Aside0 (wc.heap[gb164]? = some (.cells #[.int .i64 0, .int .i64 0, .int .i64 0] 24 (0, 0))) ∧ Aside0 (Below w.heap.size w wc))
 case first =>
  have H := HC3.out
  clear HC3
  replace H := Option.bind_eq_some_iff.mp H
  obtain ⟨t165, A60, H⟩ := H
  replace H : (if t165 = true then (if a1 < (-99) then (frac_Pow.j0 k a1 true a0_0 a0_1 a0_2) else (frac_Pow.j0 k a1 (decide (a1 > 99)) a0_0 a0_1 a0_2)) else (frac_Pow.j0 k a1 true a0_0 a0_1 a0_2)) = some (r1, r2, r3, r4) := H
  have A6 := Aside0.mk A60
  clear A60
  by_cases c7 : t165 = true
  ·subst c7
   have H1 : (if a1 < (-99) then (frac_Pow.j0 k a1 true a0_0 a0_1 a0_2) else (frac_Pow.j0 k a1 (decide (a1 > 99)) a0_0 a0_1 a0_2)) = some (r1, r2, r3, r4) := by rw [if_pos rfl] at H; exact H
   clear H
   have H := H1
   clear H1
   by_cases c8 : a1 < (-99)
   ·rw [if_pos c8] at H
    have c8b0 : decide (a1 < (-99)) = true := decide_eq_true c8
    clear c8
    (first | rw [c8b0] | (simp only [i64_w, i32_w]; rw [c8b0]) | skip)
    have H' := Aside0.mk H
    clear H
    have hnb9 := NB163_164.out
    have hnc9 := NB164_163.out
    obtain ⟨hcz10_0, hcz10_1, hcz10_2⟩ := hc3 BK163.out
    obtain ⟨hfz10_0, hfz10_1, hfz10_2⟩ := hf3 BK163.out
    go_wp2_with (first | ((with_reducible refine gate_callee (f := 13) rfl ?_); refine goesL_ (some 12) rfl rfl Tryd.func13 (by kernel_rfl) rfl #[.agg #[.int .i64 a0_0, .int .i64 a0_1, .int .i64 a0_2]] rfl (by (try simp only [List.map_toArray, List.map_cons, List.map_nil]); first | done | rfl | (simp only [List.length_drop, List.length_take]; rfl)) ?_; (with_reducible refine (frac_Right.calls k a0_0 a0_1 a0_2 true _ A6.out).mono ?_); rintro e w11 ⟨rfl, hb⟩; refine ⟨_, rfl, ?_⟩; replace BK163 := Aside0.mk (blk_below (kp BK163.out) hb); replace BK164 := Aside0.mk (blk_below (kp BK164.out) hb); replace HB := Aside0.mk (below_step (bl HB.out) hb); (try clear hb); (try clear hb2); (try clear hk); (try clear hi)))
    go_meet
    case rel => exact ⟨_, (true), (by first | rfl | (simp; done) | (simp [*]; done)), H', ⟨by first | omega | exact Nat.le_refl _⟩, ⟨kp BK163.out⟩, ⟨kp BK164.out⟩, ⟨bl HB.out⟩⟩
   ·rw [if_neg c8] at H
    have c8b0 : decide (a1 < (-99)) = false := decide_eq_false c8
    clear c8
    (first | rw [c8b0] | (simp only [i64_w, i32_w]; rw [c8b0]) | skip)
    have H' := Aside0.mk H
    clear H
    have hnb12 := NB163_164.out
    have hnc12 := NB164_163.out
    obtain ⟨hcz13_0, hcz13_1, hcz13_2⟩ := hc3 BK163.out
    obtain ⟨hfz13_0, hfz13_1, hfz13_2⟩ := hf3 BK163.out
    go_wp2_with (first | ((with_reducible refine gate_callee (f := 13) rfl ?_); refine goesL_ (some 12) rfl rfl Tryd.func13 (by kernel_rfl) rfl #[.agg #[.int .i64 a0_0, .int .i64 a0_1, .int .i64 a0_2]] rfl (by (try simp only [List.map_toArray, List.map_cons, List.map_nil]); first | done | rfl | (simp only [List.length_drop, List.length_take]; rfl)) ?_; (with_reducible refine (frac_Right.calls k a0_0 a0_1 a0_2 true _ A6.out).mono ?_); rintro e w14 ⟨rfl, hb⟩; refine ⟨_, rfl, ?_⟩; replace BK163 := Aside0.mk (blk_below (kp BK163.out) hb); replace BK164 := Aside0.mk (blk_below (kp BK164.out) hb); replace HB := Aside0.mk (below_step (bl HB.out) hb); (try clear hb); (try clear hb2); (try clear hk); (try clear hi)))
    go_meet
    case rel => exact ⟨_, (decide (a1 > 99)), (by first | rfl | (simp; done) | (simp [*]; done)), H', ⟨by first | omega | exact Nat.le_refl _⟩, ⟨kp BK163.out⟩, ⟨kp BK164.out⟩, ⟨bl HB.out⟩⟩
  ·replace c7 := Bool.eq_false_iff.mpr c7
   subst c7
   have H1 : (frac_Pow.j0 k a1 true a0_0 a0_1 a0_2) = some (r1, r2, r3, r4) := by rw [if_neg (show ¬ (false = true) by decide)] at H; exact H
   clear H
   have H := H1
   clear H1
   have H' := Aside0.mk H
   clear H
   have hnb15 := NB163_164.out
   have hnc15 := NB164_163.out
   obtain ⟨hcz16_0, hcz16_1, hcz16_2⟩ := hc3 BK163.out
   obtain ⟨hfz16_0, hfz16_1, hfz16_2⟩ := hf3 BK163.out
   go_wp2_with (first | ((with_reducible refine gate_callee (f := 13) rfl ?_); refine goesL_ (some 12) rfl rfl Tryd.func13 (by kernel_rfl) rfl #[.agg #[.int .i64 a0_0, .int .i64 a0_1, .int .i64 a0_2]] rfl (by (try simp only [List.map_toArray, List.map_cons, List.map_nil]); first | done | rfl | (simp only [List.length_drop, List.length_take]; rfl)) ?_; (with_reducible refine (frac_Right.calls k a0_0 a0_1 a0_2 false _ A6.out).mono ?_); rintro e w17 ⟨rfl, hb⟩; refine ⟨_, rfl, ?_⟩; replace BK163 := Aside0.mk (blk_below (kp BK163.out) hb); replace BK164 := Aside0.mk (blk_below (kp BK164.out) hb); replace HB := Aside0.mk (below_step (bl HB.out) hb); (try clear hb); (try clear hb2); (try clear hk); (try clear hi)))
   go_meet
   case rel => exact ⟨_, (true), (by first | rfl | (simp; done) | (simp [*]; done)), H', ⟨by first | omega | exact Nat.le_refl _⟩, ⟨kp BK163.out⟩, ⟨kp BK164.out⟩, ⟨bl HB.out⟩⟩
 case rest =>
  clear HC3
  try clear c1
  try clear p2
  try clear c7
  try clear c8
  try clear c8b0
  try clear c9
  try clear c12
  try clear c13
  try clear c15
  try clear hcz10_0
  try clear hcz10_1
  try clear hcz10_2
  try clear hcz13_0
  try clear hcz13_1
  try clear hcz13_2
  try clear hcz16_0
  try clear hcz16_1
  try clear hcz16_2
  try clear hfz10_0
  try clear hfz10_1
  try clear hfz10_2
  try clear hfz13_0
  try clear hfz13_1
  try clear hfz13_2
  try clear hfz16_0
  try clear hfz16_1
  try clear hfz16_2
  obtain ⟨kq, x10_2, rfl, HA, HJ2, BK163, BK164, HB⟩ := hcut
  cases kq with
  | zero => exact absurd HA.out (by simp [frac_Pow.j0])
  | succ kj2 =>
   have H := HA.out
   clear HA
   simp only [frac_Pow.j0] at H
   by_cases c18 : x10_2 = true
   ·subst c18
    have H1 : (some (0, 0, 0, 1)) = some (r1, r2, r3, r4) := by rw [if_pos rfl] at H; exact H
    clear H
    have H := H1
    clear H1
    simp only [Option.some.injEq, Prod.mk.injEq] at H
    obtain ⟨rfl, rfl, rfl, rfl⟩ := H
    have hnb19 := NB164_163.out
    have hnc19 := NB163_164.out
    obtain ⟨hcz20_0, hcz20_1, hcz20_2⟩ := hc3 BK164.out
    obtain ⟨hfz20_0, hfz20_1, hfz20_2⟩ := hf3 BK164.out
    go_wp2
    refine bodyPost_ret (results_ct rfl _ _ gb164 24 #[.int .i64 0, .int .i64 0, .int .i64 0] (0, 0) _ rfl (kp (p3_2 (kp (p3_1 (kp (p3_0 (kp BK164.out))))))) Tryd.underlying24 rfl (by kernel_rfl)) rfl ?_
    exact ⟨by first | rfl | (simp [errW_none, errW_some] <;> rfl) | (simp [*, errW_none, errW_some] <;> rfl), bl HB.out⟩
   ·replace c18 := Bool.eq_false_iff.mpr c18
    subst c18
    have H1 : (if a0_0 = 0 then (frac_Pow.j1 kj2 a1 (decide (a1 < 0)) a0_0 a0_1 a0_2) else (frac_Pow.j1 kj2 a1 false a0_0 a0_1 a0_2)) = some (r1, r2, r3, r4) := by rw [if_neg (show ¬ (false = true) by decide)] at H; exact H
    clear H
    have H := H1
    clear H1
    have HC21 := Aside0.mk H
    clear H
    go_upto_region 3 with (fail)
    go_cut [23] (fun v23 wc => ∃ (kq : Nat) (x23_20 : Bool), v23 = .bool x23_20 ∧ Aside0 (frac_Pow.j1 kq a1 x23_20 a0_0 a0_1 a0_2 = some (r1, r2, r3, r4)) ∧ Aside0 (kq ≤ kj2) ∧ Aside0 (wc.heap[gb163]? = some (.cells #[.int .i64 a0_0, .int .i64 a0_1, .int .i64 a0_2] 24 (0, 0))) ∧ Aside0 (wc.heap[gb164]? = some (.cells #[.int .i64 0, .int .i64 0, .int .i64 0] 24 (0, 0))) ∧ Aside0 (Below w.heap.size w wc))
    case first =>
     have H := HC21.out
     clear HC21
     by_cases c22 : a0_0 = 0
     ·rw [if_pos c22] at H
      have c22b0 : (a0_0 == 0) = true := beq_iff_eq.mpr c22
      have c22b1 : (a0_0 != 0) = false := bne_eq_false_iff_eq.mpr c22
      clear c22
      (first | rw [c22b0] | (simp only [i64_w, i32_w]; rw [c22b0]) | skip)
      have H' := Aside0.mk H
      clear H
      have hnb23 := NB163_164.out
      have hnc23 := NB164_163.out
      obtain ⟨hcz24_0, hcz24_1, hcz24_2⟩ := hc3 BK163.out
      obtain ⟨hfz24_0, hfz24_1, hfz24_2⟩ := hf3 BK163.out
      go_wp2
      go_meet
      case rel => exact ⟨_, (decide (a1 < 0)), (by first | rfl | (simp; done) | (simp [*]; done)), H', ⟨by have := HJ2.out; first | omega | exact Nat.le_refl _⟩, ⟨kp BK163.out⟩, ⟨kp BK164.out⟩, ⟨bl HB.out⟩⟩
     ·rw [if_neg c22] at H
      have c22b0 : (a0_0 == 0) = false := beq_eq_false_iff_ne.mpr c22
      have c22b1 : (a0_0 != 0) = true := bne_iff_ne.mpr c22
      (first | rw [c22b0] | (simp only [i64_w, i32_w]; rw [c22b0]) | skip)
      have H' := Aside0.mk H
      clear H
      have hnb25 := NB163_164.out
      have hnc25 := NB164_163.out
      obtain ⟨hcz26_0, hcz26_1, hcz26_2⟩ := hc3 BK163.out
      obtain ⟨hfz26_0, hfz26_1, hfz26_2⟩ := hf3 BK163.out
      go_wp2
      go_meet
      case rel => exact ⟨_, (false), (by first | rfl | (simp; done) | (simp [*]; done)), H', ⟨by have := HJ2.out; first | omega | exact Nat.le_refl _⟩, ⟨kp BK163.out⟩, ⟨kp BK164.out⟩, ⟨bl HB.out⟩⟩
    case rest =>
     clear HC21
     try clear c1
     try clear c2
     try clear p2
     try clear c7
     try clear c8
     try clear c8b0
     try clear c9
     try clear c12
     try clear c13
     try clear c15
     try clear c18
     try clear c19
     try clear c22
     try clear c22b0
     try clear c22b1
     try clear c23
     try clear c25
     try clear hcz10_0
     try clear hcz10_1
     try clear hcz10_2
     try clear hcz13_0
     try clear hcz13_1
     try clear hcz13_2
     try clear hcz16_0
     try clear hcz16_1
     try clear hcz16_2
     try clear hcz20_0
     try clear hcz20_1
     try clear hcz20_2
     try clear hcz24_0
     try clear hcz24_1
     try clear hcz24_2
     try clear hcz26_0
     try clear hcz26_1
     try clear hcz26_2
     try clear hfz10_0
     try clear hfz10_1
     try clear hfz10_2
     try clear hfz13_0
     try clear hfz13_1
     try clear hfz13_2
     try clear hfz16_0
     try clear hfz16_1
     try clear hfz16_2
     try clear hfz20_0
     try clear hfz20_1
     try clear hfz20_2
     try clear hfz24_0
     try clear hfz24_1
     try clear hfz24_2
     try clear hfz26_0
     try clear hfz26_1
     try clear hfz26_2
     try clear p2
     obtain ⟨kq, x23_20, rfl, HA, HJ20, BK163, BK164, HB⟩ := hcut
     cases kq with
     | zero => exact absurd HA.out (by simp [frac_Pow.j1])
     | succ kj20 =>
      have H := HA.out
      clear HA
      simp only [frac_Pow.j1] at H
      by_cases c27 : x23_20 = true
      ·subst c27
       have H1 : (some (0, 0, 0, 11)) = some (r1, r2, r3, r4) := by rw [if_pos rfl] at H; exact H
       clear H
       have H := H1
       clear H1
       simp only [Option.some.injEq, Prod.mk.injEq] at H
       obtain ⟨rfl, rfl, rfl, rfl⟩ := H
       have hnb28 := NB164_163.out
       have hnc28 := NB163_164.out
       obtain ⟨hcz29_0, hcz29_1, hcz29_2⟩ := hc3 BK164.out
       obtain ⟨hfz29_0, hfz29_1, hfz29_2⟩ := hf3 BK164.out
       go_wp2
       refine bodyPost_ret (results_ct rfl _ _ gb164 24 #[.int .i64 0, .int .i64 0, .int .i64 0] (0, 0) _ rfl (kp (p3_2 (kp (p3_1 (kp (p3_0 (kp BK164.out))))))) Tryd.underlying24 rfl (by kernel_rfl)) rfl ?_
       exact ⟨by first | rfl | (simp [errW_none, errW_some] <;> rfl) | (simp [*, errW_none, errW_some] <;> rfl), bl HB.out⟩
      ·replace c27 := Bool.eq_false_iff.mpr c27
       subst c27
       have H1 : (if a1 = 0 then (some (1, 1, 0, 0)) else (if a0_0 = 0 then (some (a0_0, a0_1, a0_2, 0)) else ((frac_loosen.f kj20 a0_0 a0_1).bind fun bt166 => (if a1 < 0 then ((frac_loose_turned.f kj20 bt166.1 bt166.2.1 bt166.2.2.1 bt166.2.2.2).bind fun bt171 => (frac_Pow.j2 kj20 (wrap64 (-a1)) (wrap64 (a0_2 * a1)) bt171.1 bt171.2.1 bt171.2.2.1 bt171.2.2.2)) else (frac_Pow.j2 kj20 a1 (wrap64 (a0_2 * a1)) bt166.1 bt166.2.1 bt166.2.2.1 bt166.2.2.2))))) = some (r1, r2, r3, r4) := by rw [if_neg (show ¬ (false = true) by decide)] at H; exact H
       clear H
       have H := H1
       clear H1
       by_cases c30 : a1 = 0
       ·rw [if_pos c30] at H
        have c30b0 : (a1 == 0) = true := beq_iff_eq.mpr c30
        have c30b1 : (a1 != 0) = false := bne_eq_false_iff_eq.mpr c30
        clear c30
        simp only [Option.some.injEq, Prod.mk.injEq] at H
        obtain ⟨rfl, rfl, rfl, rfl⟩ := H
        obtain ⟨tvg31, hvg31⟩ := hG.v0 rfl
        have hlg31 := blk_lt hvg31
        have hng31_0 : gb163 ≠ 0 := (by have h_ := GE163.out; omega)
        have hng31_1 : gb164 ≠ 0 := (by have h_ := GE164.out; omega)
        have hmg31_0 : 0 ≠ gb163 := fun h_ => hng31_0 h_.symm
        have hmg31_1 : 0 ≠ gb164 := fun h_ => hng31_1 h_.symm
        clear hlg31 hvg31
        clear tvg31
        obtain ⟨tvg31, hvg31⟩ := Flat.FlatVar.below (hG.v0 rfl) HB.out
        have hcg31_0 : wc.cell? ⟨0, 0, none⟩ = some (.int .i64 1) := (blk_cell hvg31 0).trans rfl
        have hcg31_1 : wc.cell? ⟨0, 1, none⟩ = some (.int .i64 1) := (blk_cell hvg31 1).trans rfl
        have hcg31_2 : wc.cell? ⟨0, 2, none⟩ = some (.int .i64 0) := (blk_cell hvg31 2).trans rfl
        clear hvg31
        have hnb32 := NB164_163.out
        have hnc32 := NB163_164.out
        obtain ⟨hcz33_0, hcz33_1, hcz33_2⟩ := hc3 BK164.out
        obtain ⟨hfz33_0, hfz33_1, hfz33_2⟩ := hf3 BK164.out
        go_wp2
        refine bodyPost_ret (results_ct rfl _ _ gb164 24 #[.int .i64 1, .int .i64 1, .int .i64 0] (0, 0) _ rfl (kp (p3_2 (kp (p3_1 (kp (p3_0 (kp BK164.out))))))) Tryd.underlying24 rfl (by kernel_rfl)) rfl ?_
        exact ⟨by first | rfl | (simp [errW_none, errW_some] <;> rfl) | (simp [*, errW_none, errW_some] <;> rfl), bl HB.out⟩
       ·rw [if_neg c30] at H
        have c30b0 : (a1 == 0) = false := beq_eq_false_iff_ne.mpr c30
        have c30b1 : (a1 != 0) = true := bne_iff_ne.mpr c30
        by_cases c34 : a0_0 = 0
        ·rw [if_pos c34] at H
         have c34b0 : (a0_0 == 0) = true := beq_iff_eq.mpr c34
         have c34b1 : (a0_0 != 0) = false := bne_eq_false_iff_eq.mpr c34
         clear c34
         simp only [Option.some.injEq, Prod.mk.injEq] at H
         obtain ⟨rfl, rfl, rfl, rfl⟩ := H
         have hnb35 := NB163_164.out
         have hnc35 := NB164_163.out
         obtain ⟨hcz36_0, hcz36_1, hcz36_2⟩ := hc3 BK163.out
         obtain ⟨hfz36_0, hfz36_1, hfz36_2⟩ := hf3 BK163.out
         obtain ⟨hcz37_0, hcz37_1, hcz37_2⟩ := hc3 BK164.out
         obtain ⟨hfz37_0, hfz37_1, hfz37_2⟩ := hf3 BK164.out
         go_wp2
         refine bodyPost_ret (results_ct rfl _ _ gb164 24 #[.int .i64 a0_0, .int .i64 a0_1, .int .i64 a0_2] (0, 0) _ rfl (kp (p3_2 (kp (p3_1 (kp (p3_0 (kp BK164.out))))))) Tryd.underlying24 rfl (by kernel_rfl)) rfl ?_
         exact ⟨by first | rfl | (simp [errW_none, errW_some] <;> rfl) | (simp [*, errW_none, errW_some] <;> rfl), bl HB.out⟩
        ·rw [if_neg c34] at H
         have c34b0 : (a0_0 == 0) = false := beq_eq_false_iff_ne.mpr c34
         have c34b1 : (a0_0 != 0) = true := bne_iff_ne.mpr c34
         replace H := Option.bind_eq_some_iff.mp H
         obtain ⟨⟨t166, t167, t168, t169⟩, A380, H⟩ := H
         replace H : (if a1 < 0 then ((frac_loose_turned.f kj20 t166 t167 t168 t169).bind fun bt171 => (frac_Pow.j2 kj20 (wrap64 (-a1)) (wrap64 (a0_2 * a1)) bt171.1 bt171.2.1 bt171.2.2.1 bt171.2.2.2)) else (frac_Pow.j2 kj20 a1 (wrap64 (a0_2 * a1)) t166 t167 t168 t169)) = some (r1, r2, r3, r4) := H
         have A38 := Aside0.mk A380
         clear A380
         have HC39 := Aside0.mk H
         clear H
         have hnb40 := NB163_164.out
         have hnc40 := NB164_163.out
         obtain ⟨hcz41_0, hcz41_1, hcz41_2⟩ := hc3 BK163.out
         obtain ⟨hfz41_0, hfz41_1, hfz41_2⟩ := hf3 BK163.out
         try go_wp2
         (try (rw [drewN_self wc]; generalize hq_ : World.drewN wc _ = wc; replace BK163 := Aside0.mk (kq hq_ BK163.out); replace BK164 := Aside0.mk (kq hq_ BK164.out); replace HB := Aside0.mk (bq hq_ HB.out); clear hq_))
         replace BK163 := Aside0.mk (blk_drew BK163.out)
         replace BK164 := Aside0.mk (blk_drew BK164.out)
         replace HB := Aside0.mk (below_drew1 HB.out)
         refine start_ (n := 12) (S := fun w' => w'.cell? ⟨gb163, 0, none⟩ = some (.int .i64 a0_0) ∧ w'.cell? ⟨gb163, 1, none⟩ = some (.int .i64 a0_1) ∧ w'.cell? ⟨gb163, 2, none⟩ = some (.int .i64 a0_2)) (ds := []) #[false, false, false, false, false, false, false, false, false, false, false, false] (by kernel_rfl) rfl rfl ⟨(blk_cell BK163.out 0).trans rfl, (blk_cell BK163.out 1).trans rfl, (blk_cell BK163.out 2).trans rfl⟩ (fun hHeld => ?_); refine with_tabW frac_Pow.tab9 frac_Pow.bits9 (fun HT_ HW_ => ?_)
         generalize wc.drew = w42 at BK163 BK164 HB hHeld ⊢
         refine pure_ (i := 0) (N := some 41) (v := ?_) (a' := ?_) #[true, false, false, false, false, false, false, false, false, false, false, false] rfl rfl (any_of HT_.out (by kernel_rfl)) (fun _ _ _ h => h) (Or.inl ⟨by rfl, ?_⟩) ?_ ?_
         rotate_left
         ·intro w'
          go_simp
          with_reducible rfl
         rotate_left
         ·simp only [Act.put, List.setIfInBounds_toArray, List.set_cons_zero, List.set_cons_succ, i64_w, i32_w]
          rfl
         refine pure_ (i := 2) (N := some 43) (v := ?_) (a' := ?_) #[true, false, true, false, false, false, false, false, false, false, false, false] rfl rfl (any_of HT_.out (by kernel_rfl)) (fun _ _ _ h => h) (Or.inl ⟨by rfl, ?_⟩) ?_ ?_
         rotate_left
         ·intro w'
          go_simp
          with_reducible rfl
         rotate_left
         ·simp only [Act.put, List.setIfInBounds_toArray, List.set_cons_zero, List.set_cons_succ, i64_w, i32_w]
          rfl
         refine pure_ (i := 5) (N := some 46) (v := ?_) (a' := ?_) #[true, false, true, false, false, true, false, false, false, false, false, false] rfl rfl (any_of HT_.out (by kernel_rfl)) (fun _ _ _ h => h) (Or.inl ⟨by rfl, ?_⟩) ?_ ?_
         rotate_left
         ·intro w'
          go_simp
          with_reducible rfl
         rotate_left
         ·simp only [Act.put, List.setIfInBounds_toArray, List.set_cons_zero, List.set_cons_succ, i64_w, i32_w]
          rfl
         refine pure_ (i := 7) (N := some 48) (v := ?_) (a' := ?_) #[true, false, true, false, false, true, false, true, false, false, false, false] rfl rfl (any_of HT_.out (by kernel_rfl)) (fun _ _ _ h => h) (Or.inl ⟨by rfl, ?_⟩) ?_ ?_
         rotate_left
         ·intro w'
          go_simp
          with_reducible rfl
         rotate_left
         ·simp only [Act.put, List.setIfInBounds_toArray, List.set_cons_zero, List.set_cons_succ, i64_w, i32_w]
          rfl
         refine take_ (i := 1) (N := some 42) (v := ?_) (a' := ?_) #[true, true, true, false, false, true, false, true, false, false, false, false] rfl rfl (take_ofW HT_.out HW_.out (by kernel_rfl)) (fun _ _ _ h => h) (Or.inl ⟨by rfl, ?_⟩) hHeld ?_ ?_
         rotate_left
         ·rintro w' ⟨s0, s1, s2⟩
          go_simp
          with_reducible rfl
         rotate_left
         ·simp only [Act.put, List.setIfInBounds_toArray, List.set_cons_zero, List.set_cons_succ, i64_w, i32_w]
          rfl
         refine take_ (i := 3) (N := some 44) (v := ?_) (a' := ?_) #[true, true, true, true, false, true, false, true, false, false, false, false] rfl rfl (take_ofW HT_.out HW_.out (by kernel_rfl)) (fun _ _ _ h => h) (Or.inl ⟨by rfl, ?_⟩) hHeld ?_ ?_
         rotate_left
         ·rintro w' ⟨s0, s1, s2⟩
          go_simp
          with_reducible rfl
         rotate_left
         ·simp only [Act.put, List.setIfInBounds_toArray, List.set_cons_zero, List.set_cons_succ, i64_w, i32_w]
          rfl
         refine take_ (i := 6) (N := some 47) (v := ?_) (a' := ?_) #[true, true, true, true, false, true, true, true, false, false, false, false] rfl rfl (take_ofW HT_.out HW_.out (by kernel_rfl)) (fun _ _ _ h => h) (Or.inl ⟨by rfl, ?_⟩) hHeld ?_ ?_
         rotate_left
         ·rintro w' ⟨s0, s1, s2⟩
          go_simp
          with_reducible rfl
         rotate_left
         ·simp only [Act.put, List.setIfInBounds_toArray, List.set_cons_zero, List.set_cons_succ, i64_w, i32_w]
          rfl
         refine pure_ (i := 8) (N := some 49) (v := ?_) (a' := ?_) #[true, true, true, true, false, true, true, true, true, false, false, false] rfl rfl (any_of HT_.out (by kernel_rfl)) (fun _ _ _ h => h) (Or.inl ⟨by rfl, ?_⟩) ?_ ?_
         rotate_left
         ·intro w'
          go_simp
          with_reducible rfl
         rotate_left
         ·simp only [Act.put, List.setIfInBounds_toArray, List.set_cons_zero, List.set_cons_succ, i64_w, i32_w]
          rfl
         refine join_ (σ := Nat) 2 #[true, true, true, true, true, true, true, true, true, true, false, false] (fun s_ => [(45, .agg #[.int .i64 t166, .int .i64 t167, .int .i64 t168, .int .i64 t169]), (6, .pointer (some ⟨s_, 0, none⟩))]) (fun s_ w' => (w'.cell? ⟨gb163, 0, none⟩ = some (.int .i64 a0_0) ∧ w'.cell? ⟨gb163, 1, none⟩ = some (.int .i64 a0_1) ∧ w'.cell? ⟨gb163, 2, none⟩ = some (.int .i64 a0_2)) ∧ (w'.heap[gb163]? = some (.cells #[.int .i64 a0_0, .int .i64 a0_1, .int .i64 a0_2] 24 (0, 0))) ∧ (w'.heap[gb164]? = some (.cells #[.int .i64 0, .int .i64 0, .int .i64 0] 24 (0, 0))) ∧ (w'.heap[s_]? = some (.cells #[.int .i64 0, .int .i64 0, .int .i64 0, .int .i64 0] 55 (0, 0))) ∧ (w.heap.size ≤ s_) ∧ (w.heap.size ≤ s_) ∧ (gb163 ≠ s_) ∧ (s_ ≠ gb163) ∧ (gb164 ≠ s_) ∧ (s_ ≠ gb164) ∧ (Below w.heap.size w w')) ?_ ?_
         rotate_left
         ·intro hCont
          refine two_ (i := 4) (j := 9) (Ni := some 45) (Nj := some 6) #[true, true, true, true, true, true, true, true, true, false, false, false] #[true, true, true, true, false, true, true, true, true, true, false, false] rfl rfl rfl rfl (two_of HT_.out (by kernel_rfl)) (by decide) (by decide) (fun K hK => ?_) (fun K hK => ?_)
          ·skip
           refine goes_ Tryd.func26 (by kernel_rfl) rfl #[.int .i64 a0_0, .int .i64 a0_1] (by rfl) rfl rfl (by (try simp only [List.map_toArray, List.map_cons, List.map_nil]); first | done | rfl | (simp only [List.length_drop, List.length_take]; rfl)) ?_
           with_reducible refine (frac_loosen.calls kj20 a0_0 a0_1 t166 t167 t168 t169 _ (Glob.use hG (by decide) (by repeat (first | (with_reducible first | exact HB.out | exact Below.refl _ _ | apply below_alloc | apply pw_below_drewN | apply below_drew1) | exact HB.out | exact Below.refl _ _))) A38.out).mono ?_
           rintro e w43 ⟨rfl, hb⟩
           refine ⟨_, rfl, ?_⟩
           replace BK163 := Aside0.mk (blk_below (kp BK163.out) hb)
           replace BK164 := Aside0.mk (blk_below (kp BK164.out) hb)
           replace HB := Aside0.mk (below_step (bl HB.out) hb)
           (try clear hb)
           (try clear hb2)
           (try clear hk)
           (try clear hi)
           refine hK.out _ _ ⟨(blk_cell BK163.out 0).trans rfl, (blk_cell BK163.out 1).trans rfl, (blk_cell BK163.out 2).trans rfl⟩ (fun hHeld => ?_)
           clear hK K
           refine norm_ (a' := ?_) ?_ ?_
           rotate_left
           ·show Act.put _ (some 45) _ = _
            simp only [Act.put, List.setIfInBounds_toArray, List.set_cons_zero, List.set_cons_succ, i64_w, i32_w]
            rfl
           refine one_ (i := 9) (N := some 6) #[true, true, true, true, true, true, true, true, true, true, false, false] rfl rfl (one_of HT_.out (by kernel_rfl)) (by decide) (fun K hK => ?_)
           refine box_step ?hg (N := 6) ?hd (cs := #[.int .i64 0, .int .i64 0, .int .i64 0, .int .i64 0]) (t := 55) ?hr ?_; (case hd => rfl); (case hg => rfl); (case hr => first | (go_simp; done) | (go_simp; rfl))
           intro gb170 hg w44 hbox hb
           have n0_ := Aside0.mk (blk_below (kp BK163.out) hb)
           have n1_ := Aside0.mk (blk_below (kp BK164.out) hb)
           have n2_ := Aside0.mk (below_step (bl HB.out) hb)
           have n3_ := Aside0.mk (hbox)
           have n4_ := Aside0.mk ((by rw [hg]; exact (below_size (bl HB.out)) : w.heap.size ≤ gb170))
           have n5_ := Aside0.mk ((by rw [hg]; exact (below_size (bl HB.out)) : w.heap.size ≤ gb170))
           have n6_ := Aside0.mk ((by rw [hg]; exact Nat.ne_of_lt (blk_lt (kp BK163.out)) : gb163 ≠ gb170))
           have n7_ := Aside0.mk ((by rw [hg]; exact Nat.ne_of_gt (blk_lt (kp BK163.out)) : gb170 ≠ gb163))
           have n8_ := Aside0.mk ((by rw [hg]; exact Nat.ne_of_lt (blk_lt (kp BK164.out)) : gb164 ≠ gb170))
           have n9_ := Aside0.mk ((by rw [hg]; exact Nat.ne_of_gt (blk_lt (kp BK164.out)) : gb170 ≠ gb164))
           clear BK163
           clear BK164
           clear HB
           have BK163 := n0_
           have BK164 := n1_
           have HB := n2_
           have BK170 := n3_
           have GW170 := n4_
           have GE170 := n5_
           have NB163_170 := n6_
           have NB170_163 := n7_
           have NB164_170 := n8_
           have NB170_164 := n9_
           clear n0_ n1_ n2_ n3_ n4_ n5_ n6_ n7_ n8_ n9_
           clear hb hbox hg
           refine hK.out _ _ ⟨(blk_cell BK163.out 0).trans rfl, (blk_cell BK163.out 1).trans rfl, (blk_cell BK163.out 2).trans rfl⟩ (fun hHeld => ?_)
           clear hK K
           refine norm_ (a' := ?_) ?_ ?_
           rotate_left
           ·show Act.put _ (some 6) _ = _
            simp only [Act.put, List.setIfInBounds_toArray, List.set_cons_zero, List.set_cons_succ, i64_w, i32_w]
            rfl
           exact norm_ (by simp only [putAll, Act.put, List.setIfInBounds_toArray, List.set_cons_zero, List.set_cons_succ]) (hCont (gb170) _ ⟨hHeld, (kp BK163.out), (kp BK164.out), (kp BK170.out), GW170.out, GE170.out, NB163_170.out, NB170_163.out, NB164_170.out, NB170_164.out, (bl HB.out)⟩)
          ·skip
           refine box_step ?hg (N := 6) ?hd (cs := #[.int .i64 0, .int .i64 0, .int .i64 0, .int .i64 0]) (t := 55) ?hr ?_; (case hd => rfl); (case hg => rfl); (case hr => first | (go_simp; done) | (go_simp; rfl))
           intro gb170 hg w43 hbox hb
           have n0_ := Aside0.mk (blk_below (kp BK163.out) hb)
           have n1_ := Aside0.mk (blk_below (kp BK164.out) hb)
           have n2_ := Aside0.mk (below_step (bl HB.out) hb)
           have n3_ := Aside0.mk (hbox)
           have n4_ := Aside0.mk ((by rw [hg]; exact (below_size (bl HB.out)) : w.heap.size ≤ gb170))
           have n5_ := Aside0.mk ((by rw [hg]; exact (below_size (bl HB.out)) : w.heap.size ≤ gb170))
           have n6_ := Aside0.mk ((by rw [hg]; exact Nat.ne_of_lt (blk_lt (kp BK163.out)) : gb163 ≠ gb170))
           have n7_ := Aside0.mk ((by rw [hg]; exact Nat.ne_of_gt (blk_lt (kp BK163.out)) : gb170 ≠ gb163))
           have n8_ := Aside0.mk ((by rw [hg]; exact Nat.ne_of_lt (blk_lt (kp BK164.out)) : gb164 ≠ gb170))
           have n9_ := Aside0.mk ((by rw [hg]; exact Nat.ne_of_gt (blk_lt (kp BK164.out)) : gb170 ≠ gb164))
           clear BK163
           clear BK164
           clear HB
           have BK163 := n0_
           have BK164 := n1_
           have HB := n2_
           have BK170 := n3_
           have GW170 := n4_
           have GE170 := n5_
           have NB163_170 := n6_
           have NB170_163 := n7_
           have NB164_170 := n8_
           have NB170_164 := n9_
           clear n0_ n1_ n2_ n3_ n4_ n5_ n6_ n7_ n8_ n9_
           clear hb hbox hg
           refine hK.out _ _ ⟨(blk_cell BK163.out 0).trans rfl, (blk_cell BK163.out 1).trans rfl, (blk_cell BK163.out 2).trans rfl⟩ (fun hHeld => ?_)
           clear hK K
           refine norm_ (a' := ?_) ?_ ?_
           rotate_left
           ·show Act.put _ (some 6) _ = _
            simp only [Act.put, List.setIfInBounds_toArray, List.set_cons_zero, List.set_cons_succ, i64_w, i32_w]
            rfl
           refine one_ (i := 4) (N := some 45) #[true, true, true, true, true, true, true, true, true, true, false, false] rfl rfl (one_of HT_.out (by kernel_rfl)) (by decide) (fun K hK => ?_)
           refine goes_ Tryd.func26 (by kernel_rfl) rfl #[.int .i64 a0_0, .int .i64 a0_1] (by rfl) rfl rfl (by (try simp only [List.map_toArray, List.map_cons, List.map_nil]); first | done | rfl | (simp only [List.length_drop, List.length_take]; rfl)) ?_
           with_reducible refine (frac_loosen.calls kj20 a0_0 a0_1 t166 t167 t168 t169 _ (Glob.use hG (by decide) (by repeat (first | (with_reducible first | exact HB.out | exact Below.refl _ _ | apply below_alloc | apply pw_below_drewN | apply below_drew1) | exact HB.out | exact Below.refl _ _))) A38.out).mono ?_
           rintro e w44 ⟨rfl, hb⟩
           refine ⟨_, rfl, ?_⟩
           replace BK163 := Aside0.mk (blk_below (kp BK163.out) hb)
           replace BK164 := Aside0.mk (blk_below (kp BK164.out) hb)
           replace BK170 := Aside0.mk (blk_below (kp BK170.out) hb)
           replace HB := Aside0.mk (below_step (bl HB.out) hb)
           (try clear hb)
           (try clear hb2)
           (try clear hk)
           (try clear hi)
           refine hK.out _ _ ⟨(blk_cell BK163.out 0).trans rfl, (blk_cell BK163.out 1).trans rfl, (blk_cell BK163.out 2).trans rfl⟩ (fun hHeld => ?_)
           clear hK K
           refine norm_ (a' := ?_) ?_ ?_
           rotate_left
           ·show Act.put _ (some 45) _ = _
            simp only [Act.put, List.setIfInBounds_toArray, List.set_cons_zero, List.set_cons_succ, i64_w, i32_w]
            rfl
           exact norm_ (by simp only [putAll, Act.put, List.setIfInBounds_toArray, List.set_cons_zero, List.set_cons_succ]) (hCont (gb170) _ ⟨hHeld, (kp BK163.out), (kp BK164.out), (kp BK170.out), GW170.out, GE170.out, NB163_170.out, NB170_163.out, NB164_170.out, NB170_164.out, (bl HB.out)⟩)
         rintro gb170 w45 ⟨hS_, h0_, h1_, h2_, h3_, h4_, h5_, h6_, h7_, h8_, h9_⟩
         have BK170 : Aside0 (w45.heap[gb170]? = some (.cells #[.int .i64 0, .int .i64 0, .int .i64 0, .int .i64 0] 55 (0, 0))) := ⟨h2_⟩
         have GW170 : Aside0 (w.heap.size ≤ gb170) := ⟨h3_⟩
         have GE170 : Aside0 (w.heap.size ≤ gb170) := ⟨h4_⟩
         have NB163_170 : Aside0 (gb163 ≠ gb170) := ⟨h5_⟩
         have NB170_163 : Aside0 (gb170 ≠ gb163) := ⟨h6_⟩
         have NB164_170 : Aside0 (gb164 ≠ gb170) := ⟨h7_⟩
         have NB170_164 : Aside0 (gb170 ≠ gb164) := ⟨h8_⟩
         replace BK163 : Aside0 (w45.heap[gb163]? = some (.cells #[.int .i64 a0_0, .int .i64 a0_1, .int .i64 a0_2] 24 (0, 0))) := ⟨h0_⟩
         replace BK164 : Aside0 (w45.heap[gb164]? = some (.cells #[.int .i64 0, .int .i64 0, .int .i64 0] 24 (0, 0))) := ⟨h1_⟩
         replace HB : Aside0 (Below w.heap.size w w45) := ⟨h9_⟩
         clear h0_ h1_ h2_ h3_ h4_ h5_ h6_ h7_ h8_ h9_
         have hHeld : w45.cell? ⟨gb163, 0, none⟩ = some (.int .i64 a0_0) ∧ w45.cell? ⟨gb163, 1, none⟩ = some (.int .i64 a0_1) ∧ w45.cell? ⟨gb163, 2, none⟩ = some (.int .i64 a0_2) := hS_
         refine norm_ (a' := ?_) ?_ ?_
         rotate_left
         ·simp only [putAll, Act.put, List.setIfInBounds_toArray, List.set_cons_zero, List.set_cons_succ]
          rfl
         refine one_ (i := 10) (N := none) #[true, true, true, true, true, true, true, true, true, true, true, false] rfl rfl (one_of HT_.out (by kernel_rfl)) (by decide) (fun K hK => ?_)
         have hs46 : w45.cell? ⟨gb170, 0, none⟩ = some (.int .i64 0) := (blk_cell BK170.out 0).trans rfl
         have hfs46 := blk_frozen BK170.out 0
         have hns46_0 := NB163_170.out
         have hns46_1 := NB164_170.out
         have hms46_0 := NB170_163.out
         have hms46_1 := NB170_164.out
         have hs47 : w45.cell? ⟨gb170, 1, none⟩ = some (.int .i64 0) := (blk_cell BK170.out 1).trans rfl
         have hfs47 := blk_frozen BK170.out 1
         have hns47_0 := NB163_170.out
         have hns47_1 := NB164_170.out
         have hms47_0 := NB170_163.out
         have hms47_1 := NB170_164.out
         have hs48 : w45.cell? ⟨gb170, 2, none⟩ = some (.int .i64 0) := (blk_cell BK170.out 2).trans rfl
         have hfs48 := blk_frozen BK170.out 2
         have hns48_0 := NB163_170.out
         have hns48_1 := NB164_170.out
         have hms48_0 := NB170_163.out
         have hms48_1 := NB170_164.out
         have hs49 : w45.cell? ⟨gb170, 3, none⟩ = some (.int .i64 0) := (blk_cell BK170.out 3).trans rfl
         have hfs49 := blk_frozen BK170.out 3
         have hns49_0 := NB163_170.out
         have hns49_1 := NB164_170.out
         have hms49_0 := NB170_163.out
         have hms49_1 := NB170_164.out
         refine skip_ (w1 := ?_) (by rfl) rfl ?_ ?_
         rotate_left
         ·go_simp
          rfl
         refine hK.out _ _ ⟨((cell_far (p := ⟨gb170, _, none⟩) NB163_170.out _).trans (((cell_far (p := ⟨gb170, _, none⟩) NB163_170.out _).trans (((cell_far (p := ⟨gb170, _, none⟩) NB163_170.out _).trans (((cell_far (p := ⟨gb170, _, none⟩) NB163_170.out _).trans (hHeld.1)))))))), ((cell_far (p := ⟨gb170, _, none⟩) NB163_170.out _).trans (((cell_far (p := ⟨gb170, _, none⟩) NB163_170.out _).trans (((cell_far (p := ⟨gb170, _, none⟩) NB163_170.out _).trans (((cell_far (p := ⟨gb170, _, none⟩) NB163_170.out _).trans (hHeld.2.1)))))))), ((cell_far (p := ⟨gb170, _, none⟩) NB163_170.out _).trans (((cell_far (p := ⟨gb170, _, none⟩) NB163_170.out _).trans (((cell_far (p := ⟨gb170, _, none⟩) NB163_170.out _).trans (((cell_far (p := ⟨gb170, _, none⟩) NB163_170.out _).trans (hHeld.2.2))))))))⟩ (fun hHeld => ?_)
         clear hK K
         refine pure_ (i := 11) (N := some 7) (v := ?_) (a' := ?_) #[true, true, true, true, true, true, true, true, true, true, true, true] rfl rfl (any_of HT_.out (by kernel_rfl)) (fun _ _ _ h => h) (Or.inl ⟨by rfl, ?_⟩) ?_ ?_
         rotate_left
         ·intro w'
          go_simp
          with_reducible rfl
         rotate_left
         ·simp only [Act.put, List.setIfInBounds_toArray, List.set_cons_zero, List.set_cons_succ, i64_w, i32_w]
          rfl
         refine done_ (done_of HT_.out (by kernel_rfl)) ?_
         go_upto_if 51 with (fail)
         go_cut [1] (fun v1 wc => ∃ (kq : Nat) (x1_38 : Int) (x171000_38 : Int) (x171001_38 : Int) (x171002_38 : Int) (x171003_38 : Int), v1 = .int .i64 x1_38 ∧ Aside0 (frac_Pow.j2 kq x1_38 (wrap64 (a0_2 * a1)) x171000_38 x171001_38 x171002_38 x171003_38 = some (r1, r2, r3, r4)) ∧ Aside0 (kq ≤ kj20) ∧ Aside0 (wc.heap[gb163]? = some (.cells #[.int .i64 a0_0, .int .i64 a0_1, .int .i64 a0_2] 24 (0, 0))) ∧ Aside0 (wc.heap[gb164]? = some (.cells #[.int .i64 0, .int .i64 0, .int .i64 0] 24 (0, 0))) ∧ Aside0 (wc.heap[gb170]? = some (.cells #[.int .i64 x171000_38, .int .i64 x171001_38, .int .i64 x171002_38, .int .i64 x171003_38] 55 (0, 0))) ∧ Aside0 (Below w.heap.size w wc))
         case first =>
          have H := HC39.out
          clear HC39
          by_cases c50 : a1 < 0
          ·rw [if_pos c50] at H
           have c50b0 : decide (a1 < 0) = true := decide_eq_true c50
           clear c50
           (first | rw [c50b0] | (simp only [i64_w, i32_w]; rw [c50b0]) | skip)
           replace H := Option.bind_eq_some_iff.mp H
           obtain ⟨⟨t171, t172, t173, t174⟩, A510, H⟩ := H
           replace H : (frac_Pow.j2 kj20 (wrap64 (-a1)) (wrap64 (a0_2 * a1)) t171 t172 t173 t174) = some (r1, r2, r3, r4) := H
           have A51 := Aside0.mk A510
           clear A510
           have H' := Aside0.mk H
           clear H
           have hnb52 := NB170_163.out
           have hnc52 := NB163_170.out
           have hnb53 := NB170_164.out
           have hnc53 := NB164_170.out
           obtain ⟨hcz54_0, hcz54_1, hcz54_2, hcz54_3⟩ := hc4 BK170.out
           obtain ⟨hfz54_0, hfz54_1, hfz54_2, hfz54_3⟩ := hf4 BK170.out
           go_wp2_with (first | ((with_reducible refine gate_callee (f := 34) rfl ?_); refine goesL_ (some 53) rfl rfl Tryd.func34 (by kernel_rfl) rfl #[.agg #[.int .i64 t166, .int .i64 t167, .int .i64 t168, .int .i64 t169]] rfl (by (try simp only [List.map_toArray, List.map_cons, List.map_nil]); first | done | rfl | (simp only [List.length_drop, List.length_take]; rfl)) ?_; (with_reducible refine (frac_loose_turned.calls kj20 t166 t167 t168 t169 t171 t172 t173 t174 _ A51.out).mono ?_); rintro e w55 ⟨rfl, hb⟩; refine ⟨_, rfl, ?_⟩; replace BK163 := Aside0.mk (blk_below (kp BK163.out) hb); replace BK164 := Aside0.mk (blk_below (kp BK164.out) hb); replace BK170 := Aside0.mk (blk_below (kp (p4_3 (kp (p4_2 (kp (p4_1 (kp (p4_0 (kp BK170.out))))))))) hb); replace HB := Aside0.mk (below_step (bl HB.out) hb); (try clear hb); (try clear hb2); (try clear hk); (try clear hi); obtain ⟨hcz56_0, hcz56_1, hcz56_2, hcz56_3⟩ := hc4 BK170.out; obtain ⟨hfz56_0, hfz56_1, hfz56_2, hfz56_3⟩ := hf4 BK170.out))
           go_meet
           case rel => exact ⟨_, (wrap64 (-a1)), (t171), (t172), (t173), (t174), (by first | rfl | (simp; done) | (simp [*]; done)), H', ⟨by have := HJ2.out; have := HJ20.out; first | omega | exact Nat.le_refl _⟩, ⟨kp BK163.out⟩, ⟨kp BK164.out⟩, ⟨kp (p4_3 (kp (p4_2 (kp (p4_1 (kp (p4_0 (kp BK170.out))))))))⟩, ⟨bl HB.out⟩⟩
          ·rw [if_neg c50] at H
           have c50b0 : decide (a1 < 0) = false := decide_eq_false c50
           clear c50
           (first | rw [c50b0] | (simp only [i64_w, i32_w]; rw [c50b0]) | skip)
           have H' := Aside0.mk H
           clear H
           go_wp2
           go_meet
           case rel => exact ⟨_, (a1), (t166), (t167), (t168), (t169), (by first | rfl | (simp; done) | (simp [*]; done)), H', ⟨by have := HJ2.out; have := HJ20.out; first | omega | exact Nat.le_refl _⟩, ⟨kp BK163.out⟩, ⟨kp BK164.out⟩, ⟨kp (p4_3 (kp (p4_2 (kp (p4_1 (kp (p4_0 (kp BK170.out))))))))⟩, ⟨bl HB.out⟩⟩
         case rest =>
          clear HC39
          try clear c1
          try clear c2
          try clear p2
          try clear c3
          try clear c4
          try clear c5
          try clear p6
          try clear c7
          try clear c8
          try clear c8b0
          try clear c9
          try clear c12
          try clear c13
          try clear c15
          try clear c18
          try clear c19
          try clear c22
          try clear c22b0
          try clear c22b1
          try clear c23
          try clear c25
          try clear c26
          try clear c27
          try clear c28
          try clear c30
          try clear c30b0
          try clear c30b1
          try clear c32
          try clear c34
          try clear c34b0
          try clear c34b1
          try clear c35
          try clear c40
          try clear c50
          try clear c50b0
          try clear c52
          try clear c53
          try clear hcz10_0
          try clear hcz10_1
          try clear hcz10_2
          try clear hcz13_0
          try clear hcz13_1
          try clear hcz13_2
          try clear hcz16_0
          try clear hcz16_1
          try clear hcz16_2
          try clear hcz20_0
          try clear hcz20_1
          try clear hcz20_2
          try clear hcz24_0
          try clear hcz24_1
          try clear hcz24_2
          try clear hcz26_0
          try clear hcz26_1
          try clear hcz26_2
          try clear hcz29_0
          try clear hcz29_1
          try clear hcz29_2
          try clear hcz33_0
          try clear hcz33_1
          try clear hcz33_2
          try clear hcz36_0
          try clear hcz36_1
          try clear hcz36_2
          try clear hcz37_0
          try clear hcz37_1
          try clear hcz37_2
          try clear hcz41_0
          try clear hcz41_1
          try clear hcz41_2
          try clear hcz54_0
          try clear hcz54_1
          try clear hcz54_2
          try clear hcz54_3
          try clear hcz56_0
          try clear hcz56_1
          try clear hcz56_2
          try clear hcz56_3
          try clear hfz10_0
          try clear hfz10_1
          try clear hfz10_2
          try clear hfz13_0
          try clear hfz13_1
          try clear hfz13_2
          try clear hfz16_0
          try clear hfz16_1
          try clear hfz16_2
          try clear hfz20_0
          try clear hfz20_1
          try clear hfz20_2
          try clear hfz24_0
          try clear hfz24_1
          try clear hfz24_2
          try clear hfz26_0
          try clear hfz26_1
          try clear hfz26_2
          try clear hfz29_0
          try clear hfz29_1
          try clear hfz29_2
          try clear hfz33_0
          try clear hfz33_1
          try clear hfz33_2
          try clear hfz36_0
          try clear hfz36_1
          try clear hfz36_2
          try clear hfz37_0
          try clear hfz37_1
          try clear hfz37_2
          try clear hfz41_0
          try clear hfz41_1
          try clear hfz41_2
          try clear hfz54_0
          try clear hfz54_1
          try clear hfz54_2
          try clear hfz54_3
          try clear hfz56_0
          try clear hfz56_1
          try clear hfz56_2
          try clear hfz56_3
          try clear p2
          obtain ⟨kq, x1_38, x171000_38, x171001_38, x171002_38, x171003_38, rfl, HA, HJ38, BK163, BK164, BK170, HB⟩ := hcut
          cases kq with
          | zero => exact absurd HA.out (by simp [frac_Pow.j2])
          | succ kj38 =>
           have H := HA.out
           clear HA
           simp only [frac_Pow.j2] at H
           have H' := Aside0.mk H
           clear H
           go_wp2_with (first | ((with_reducible refine gate_dst (N := 8) rfl ?_); refine box_event ?hg (N := 8) ?hd (cs := #[.int .i64 0, .int .i64 0, .int .i64 0, .int .i64 0]) (t := 55) ?hr ?_; (case hd => rfl); (case hg => rfl); (case hr => first | (go_simp; done) | (go_simp; rfl)); intro gb175 hg w57 hbox hb; have n0_ := Aside0.mk (blk_below (kp BK163.out) hb); have n1_ := Aside0.mk (blk_below (kp BK164.out) hb); have n2_ := Aside0.mk (blk_below (kp BK170.out) hb); have n3_ := Aside0.mk (below_step (bl HB.out) hb); have n4_ := Aside0.mk (hbox); have n5_ := Aside0.mk ((by rw [hg]; exact (below_size (bl HB.out)) : w.heap.size ≤ gb175)); have n6_ := Aside0.mk ((by rw [hg]; exact (below_size (bl HB.out)) : w.heap.size ≤ gb175)); have n7_ := Aside0.mk ((by rw [hg]; exact Nat.ne_of_lt (blk_lt (kp BK163.out)) : gb163 ≠ gb175)); have n8_ := Aside0.mk ((by rw [hg]; exact Nat.ne_of_gt (blk_lt (kp BK163.out)) : gb175 ≠ gb163)); have n9_ := Aside0.mk ((by rw [hg]; exact Nat.ne_of_lt (blk_lt (kp BK164.out)) : gb164 ≠ gb175)); have n10_ := Aside0.mk ((by rw [hg]; exact Nat.ne_of_gt (blk_lt (kp BK164.out)) : gb175 ≠ gb164)); have n11_ := Aside0.mk ((by rw [hg]; exact Nat.ne_of_lt (blk_lt (kp BK170.out)) : gb170 ≠ gb175)); have n12_ := Aside0.mk ((by rw [hg]; exact Nat.ne_of_gt (blk_lt (kp BK170.out)) : gb175 ≠ gb170)); clear BK163; clear BK164; clear BK170; clear HB; have BK163 := n0_; have BK164 := n1_; have BK170 := n2_; have HB := n3_; have BK175 := n4_; have GW175 := n5_; have GE175 := n6_; have NB163_175 := n7_; have NB175_163 := n8_; have NB164_175 := n9_; have NB175_164 := n10_; have NB170_175 := n11_; have NB175_170 := n12_; clear n0_ n1_ n2_ n3_ n4_ n5_ n6_ n7_ n8_ n9_ n10_ n11_ n12_; clear hb hbox hg; have hnb58 := NB175_163.out; have hnc58 := NB163_175.out; have hnb59 := NB175_164.out; have hnc59 := NB164_175.out; have hnb60 := NB175_170.out; have hnc60 := NB170_175.out; obtain ⟨hcz61_0, hcz61_1, hcz61_2, hcz61_3⟩ := hc4 BK175.out; obtain ⟨hfz61_0, hfz61_1, hfz61_2, hfz61_3⟩ := hf4 BK175.out))
           go_loopg [58] kj38 (fun kq v58 w' => ∃ (x58_4 : Int) (x165000_4 : Int) (x165001_4 : Int) (x165002_4 : Int) (x176000_4 : Int) (x176001_4 : Int) (x176002_4 : Int) (x176003_4 : Int), v58 = .int .i64 x58_4 ∧ Aside0 (frac_Pow.l0 kq (wrap64 (a0_2 * a1)) x1_38 x58_4 x171000_38 x171001_38 x171002_38 x171003_38 x176000_4 x176001_4 x176002_4 x176003_4 = some (r1, r2, r3, r4)) ∧ Aside0 (kq ≤ kj38) ∧ Aside0 (w'.heap[gb163]? = some (.cells #[.int .i64 a0_0, .int .i64 a0_1, .int .i64 a0_2] 24 (0, 0))) ∧ Aside0 (w'.heap[gb164]? = some (.cells #[.int .i64 x165000_4, .int .i64 x165001_4, .int .i64 x165002_4] 24 (0, 0))) ∧ Aside0 (w'.heap[gb170]? = some (.cells #[.int .i64 x171000_38, .int .i64 x171001_38, .int .i64 x171002_38, .int .i64 x171003_38] 55 (0, 0))) ∧ Aside0 (w'.heap[gb175]? = some (.cells #[.int .i64 x176000_4, .int .i64 x176001_4, .int .i64 x176002_4, .int .i64 x176003_4] 55 (0, 0))) ∧ Aside0 (Below w.heap.size w w'))
           case atStart => exact ⟨(0), (0), (0), (0), (1), (1), (0), (0), (by first | rfl | (simp; done) | (simp [*]; done)), H', ⟨Nat.le_refl _⟩, ⟨kp BK163.out⟩, ⟨kp BK164.out⟩, ⟨kp BK170.out⟩, ⟨kp (p4_3 (kp (p4_2 (kp (p4_1 (kp (p4_0 (kp BK175.out))))))))⟩, ⟨bl HB.out⟩⟩
           case round =>
            clear H'
            try clear c1
            try clear c2
            try clear p2
            try clear c3
            try clear c4
            try clear c5
            try clear c6
            try clear p6
            try clear c7
            try clear c8
            try clear c8b0
            try clear c9
            try clear c12
            try clear c13
            try clear c15
            try clear c18
            try clear c19
            try clear c22
            try clear c22b0
            try clear c22b1
            try clear c23
            try clear c25
            try clear c26
            try clear c27
            try clear c28
            try clear c30
            try clear c30b0
            try clear c30b1
            try clear c32
            try clear c34
            try clear c34b0
            try clear c34b1
            try clear c35
            try clear c40
            try clear c50
            try clear c50b0
            try clear c52
            try clear c53
            try clear c58
            try clear c59
            try clear c60
            try clear hcz10_0
            try clear hcz10_1
            try clear hcz10_2
            try clear hcz13_0
            try clear hcz13_1
            try clear hcz13_2
            try clear hcz16_0
            try clear hcz16_1
            try clear hcz16_2
            try clear hcz20_0
            try clear hcz20_1
            try clear hcz20_2
            try clear hcz24_0
            try clear hcz24_1
            try clear hcz24_2
            try clear hcz26_0
            try clear hcz26_1
            try clear hcz26_2
            try clear hcz29_0
            try clear hcz29_1
            try clear hcz29_2
            try clear hcz33_0
            try clear hcz33_1
            try clear hcz33_2
            try clear hcz36_0
            try clear hcz36_1
            try clear hcz36_2
            try clear hcz37_0
            try clear hcz37_1
            try clear hcz37_2
            try clear hcz41_0
            try clear hcz41_1
            try clear hcz41_2
            try clear hcz54_0
            try clear hcz54_1
            try clear hcz54_2
            try clear hcz54_3
            try clear hcz56_0
            try clear hcz56_1
            try clear hcz56_2
            try clear hcz56_3
            try clear hcz61_0
            try clear hcz61_1
            try clear hcz61_2
            try clear hcz61_3
            try clear hfz10_0
            try clear hfz10_1
            try clear hfz10_2
            try clear hfz13_0
            try clear hfz13_1
            try clear hfz13_2
            try clear hfz16_0
            try clear hfz16_1
            try clear hfz16_2
            try clear hfz20_0
            try clear hfz20_1
            try clear hfz20_2
            try clear hfz24_0
            try clear hfz24_1
            try clear hfz24_2
            try clear hfz26_0
            try clear hfz26_1
            try clear hfz26_2
            try clear hfz29_0
            try clear hfz29_1
            try clear hfz29_2
            try clear hfz33_0
            try clear hfz33_1
            try clear hfz33_2
            try clear hfz36_0
            try clear hfz36_1
            try clear hfz36_2
            try clear hfz37_0
            try clear hfz37_1
            try clear hfz37_2
            try clear hfz41_0
            try clear hfz41_1
            try clear hfz41_2
            try clear hfz54_0
            try clear hfz54_1
            try clear hfz54_2
            try clear hfz54_3
            try clear hfz56_0
            try clear hfz56_1
            try clear hfz56_2
            try clear hfz56_3
            try clear hfz61_0
            try clear hfz61_1
            try clear hfz61_2
            try clear hfz61_3
            try clear p2
            try clear p6
            obtain ⟨x58_4, x165000_4, x165001_4, x165002_4, x176000_4, x176001_4, x176002_4, x176003_4, rfl, HA, HK4, BK163, BK164, BK170, BK175, HB⟩ := hrel
            cases gk with
            | zero => exact absurd HA.out (by simp [frac_Pow.l0])
            | succ k4 =>
             have H := HA.out
             clear HA
             simp only [frac_Pow.l0] at H
             by_cases c62 : x58_4 < x1_38
             ·rw [if_pos c62] at H
              have c62b0 : decide (x58_4 < x1_38) = true := decide_eq_true c62
              clear c62
              replace H := Option.bind_eq_some_iff.mp H
              obtain ⟨⟨t176, t177, t178, t179, t180⟩, A630, H⟩ := H
              replace H : (if t180 = true then (frac_Pow.l0 k4 (wrap64 (a0_2 * a1)) x1_38 (wrap64 (x58_4 + 1)) x171000_38 x171001_38 x171002_38 x171003_38 t176 t177 t178 t179) else (some (0, 0, 0, 10))) = some (r1, r2, r3, r4) := H
              have A63 := Aside0.mk A630
              clear A630
              by_cases c64 : t180 = true
              ·subst c64
               have H1 : (frac_Pow.l0 k4 (wrap64 (a0_2 * a1)) x1_38 (wrap64 (x58_4 + 1)) x171000_38 x171001_38 x171002_38 x171003_38 t176 t177 t178 t179) = some (r1, r2, r3, r4) := by rw [if_pos rfl] at H; exact H
               clear H
               have H := H1
               clear H1
               have H' := Aside0.mk H
               clear H
               have hnb65 := NB175_163.out
               have hnc65 := NB163_175.out
               have hnb66 := NB175_164.out
               have hnc66 := NB164_175.out
               have hnb67 := NB175_170.out
               have hnc67 := NB170_175.out
               obtain ⟨hcz68_0, hcz68_1, hcz68_2, hcz68_3⟩ := hc4 BK175.out
               obtain ⟨hfz68_0, hfz68_1, hfz68_2, hfz68_3⟩ := hf4 BK175.out
               have hnb69 := NB170_163.out
               have hnc69 := NB163_170.out
               have hnb70 := NB170_164.out
               have hnc70 := NB164_170.out
               obtain ⟨hcz71_0, hcz71_1, hcz71_2, hcz71_3⟩ := hc4 BK170.out
               obtain ⟨hfz71_0, hfz71_1, hfz71_2, hfz71_3⟩ := hf4 BK170.out
               go_wp2_with (first | ((with_reducible refine gate_callee (f := 38) rfl ?_); refine goesL_ (some 63) rfl rfl Tryd.func38 (by kernel_rfl) rfl #[.agg #[.int .i64 x176000_4, .int .i64 x176001_4, .int .i64 x176002_4, .int .i64 x176003_4], .agg #[.int .i64 x171000_38, .int .i64 x171001_38, .int .i64 x171002_38, .int .i64 x171003_38]] rfl (by (try simp only [List.map_toArray, List.map_cons, List.map_nil]); first | done | rfl | (simp only [List.length_drop, List.length_take]; rfl)) ?_; (with_reducible refine (frac_loose_times.calls k4 x176000_4 x176001_4 x176002_4 x176003_4 x171000_38 x171001_38 x171002_38 x171003_38 t176 t177 t178 t179 true _ A63.out).mono ?_); rintro e w72 ⟨rfl, hb⟩; refine ⟨_, rfl, ?_⟩; replace BK163 := Aside0.mk (blk_below (kp BK163.out) hb); replace BK164 := Aside0.mk (blk_below (kp BK164.out) hb); replace BK170 := Aside0.mk (blk_below (kp BK170.out) hb); replace BK175 := Aside0.mk (blk_below (kp BK175.out) hb); replace HB := Aside0.mk (below_step (bl HB.out) hb); (try clear hb); (try clear hb2); (try clear hk); (try clear hi); obtain ⟨hcz73_0, hcz73_1, hcz73_2, hcz73_3⟩ := hc4 BK175.out; obtain ⟨hfz73_0, hfz73_1, hfz73_2, hfz73_3⟩ := hf4 BK175.out))
               go_roundg k4
               case measure => have := HJ2.out; have := HJ20.out; have := HJ38.out; have := HK4.out; omega
               case rel => exact ⟨(wrap64 (x58_4 + 1)), (x165000_4), (x165001_4), (x165002_4), (t176), (t177), (t178), (t179), (by first | rfl | (simp; done) | (simp [*]; done)), H', ⟨by have := HJ2.out; have := HJ20.out; have := HJ38.out; have := HK4.out; omega⟩, ⟨kp BK163.out⟩, ⟨kp BK164.out⟩, ⟨kp BK170.out⟩, ⟨kp (p4_3 (kp (p4_2 (kp (p4_1 (kp (p4_0 (kp BK175.out))))))))⟩, ⟨bl HB.out⟩⟩
              ·replace c64 := Bool.eq_false_iff.mpr c64
               subst c64
               have H1 : (some (0, 0, 0, 10)) = some (r1, r2, r3, r4) := by rw [if_neg (show ¬ (false = true) by decide)] at H; exact H
               clear H
               have H := H1
               clear H1
               simp only [Option.some.injEq, Prod.mk.injEq] at H
               obtain ⟨rfl, rfl, rfl, rfl⟩ := H
               have hnb74 := NB175_163.out
               have hnc74 := NB163_175.out
               have hnb75 := NB175_164.out
               have hnc75 := NB164_175.out
               have hnb76 := NB175_170.out
               have hnc76 := NB170_175.out
               obtain ⟨hcz77_0, hcz77_1, hcz77_2, hcz77_3⟩ := hc4 BK175.out
               obtain ⟨hfz77_0, hfz77_1, hfz77_2, hfz77_3⟩ := hf4 BK175.out
               have hnb78 := NB170_163.out
               have hnc78 := NB163_170.out
               have hnb79 := NB170_164.out
               have hnc79 := NB164_170.out
               obtain ⟨hcz80_0, hcz80_1, hcz80_2, hcz80_3⟩ := hc4 BK170.out
               obtain ⟨hfz80_0, hfz80_1, hfz80_2, hfz80_3⟩ := hf4 BK170.out
               go_wp2_with (first | ((with_reducible refine gate_callee (f := 38) rfl ?_); refine goesL_ (some 63) rfl rfl Tryd.func38 (by kernel_rfl) rfl #[.agg #[.int .i64 x176000_4, .int .i64 x176001_4, .int .i64 x176002_4, .int .i64 x176003_4], .agg #[.int .i64 x171000_38, .int .i64 x171001_38, .int .i64 x171002_38, .int .i64 x171003_38]] rfl (by (try simp only [List.map_toArray, List.map_cons, List.map_nil]); first | done | rfl | (simp only [List.length_drop, List.length_take]; rfl)) ?_; (with_reducible refine (frac_loose_times.calls k4 x176000_4 x176001_4 x176002_4 x176003_4 x171000_38 x171001_38 x171002_38 x171003_38 t176 t177 t178 t179 false _ A63.out).mono ?_); rintro e w81 ⟨rfl, hb⟩; refine ⟨_, rfl, ?_⟩; replace BK163 := Aside0.mk (blk_below (kp BK163.out) hb); replace BK164 := Aside0.mk (blk_below (kp BK164.out) hb); replace BK170 := Aside0.mk (blk_below (kp BK170.out) hb); replace BK175 := Aside0.mk (blk_below (kp BK175.out) hb); replace HB := Aside0.mk (below_step (bl HB.out) hb); (try clear hb); (try clear hb2); (try clear hk); (try clear hi); obtain ⟨hcz82_0, hcz82_1, hcz82_2, hcz82_3⟩ := hc4 BK175.out; obtain ⟨hfz82_0, hfz82_1, hfz82_2, hfz82_3⟩ := hf4 BK175.out; have hnb83 := NB164_163.out; have hnc83 := NB163_164.out; obtain ⟨hcz84_0, hcz84_1, hcz84_2⟩ := hc3 BK164.out; obtain ⟨hfz84_0, hfz84_1, hfz84_2⟩ := hf3 BK164.out))
               refine bodyPost_ret (results_ct rfl _ _ gb164 24 #[.int .i64 0, .int .i64 0, .int .i64 0] (0, 0) _ rfl (kp (p3_2 (kp (p3_1 (kp (p3_0 (kp BK164.out))))))) Tryd.underlying24 rfl (by kernel_rfl)) rfl ?_
               exact ⟨by first | rfl | (simp [errW_none, errW_some] <;> rfl) | (simp [*, errW_none, errW_some] <;> rfl), bl HB.out⟩
             ·rw [if_neg c62] at H
              have c62b0 : decide (x58_4 < x1_38) = false := decide_eq_false c62
              clear c62
              replace H := Option.bind_eq_some_iff.mp H
              obtain ⟨⟨t181, t182, t183, t184⟩, A850, H⟩ := H
              replace H : (some (t181, t182, t183, t184)) = some (r1, r2, r3, r4) := H
              have A85 := Aside0.mk A850
              clear A850
              simp only [Option.some.injEq, Prod.mk.injEq] at H
              obtain ⟨rfl, rfl, rfl, rfl⟩ := H
              have hnb86 := NB175_163.out
              have hnc86 := NB163_175.out
              have hnb87 := NB175_164.out
              have hnc87 := NB164_175.out
              have hnb88 := NB175_170.out
              have hnc88 := NB170_175.out
              obtain ⟨hcz89_0, hcz89_1, hcz89_2, hcz89_3⟩ := hc4 BK175.out
              obtain ⟨hfz89_0, hfz89_1, hfz89_2, hfz89_3⟩ := hf4 BK175.out
              go_wp2_with (first | ((with_reducible refine gate_callee (f := 27) rfl ?_); refine goesL_ (some 72) rfl rfl Tryd.func27 (by kernel_rfl) rfl #[.agg #[.int .i64 x176000_4, .int .i64 x176001_4, .int .i64 x176002_4, .int .i64 x176003_4], .int .i64 (wrap64 (a0_2 * a1))] rfl (by (try simp only [List.map_toArray, List.map_cons, List.map_nil]); first | done | rfl | (simp only [List.length_drop, List.length_take]; rfl)) ?_; (with_reducible refine (frac_loose_form.calls k4 x176000_4 x176001_4 x176002_4 x176003_4 (wrap64 (a0_2 * a1)) t181 t182 t183 t184 _ (Glob.use hG (by decide) (bl HB.out)) A85.out).mono ?_); rintro e w90 ⟨rfl, hb⟩; refine ⟨_, rfl, ?_⟩; replace BK163 := Aside0.mk (blk_below (kp BK163.out) hb); replace BK164 := Aside0.mk (blk_below (kp BK164.out) hb); replace BK170 := Aside0.mk (blk_below (kp BK170.out) hb); replace BK175 := Aside0.mk (blk_below (kp BK175.out) hb); replace HB := Aside0.mk (below_step (bl HB.out) hb); (try clear hb); (try clear hb2); (try clear hk); (try clear hi); have hnb91 := NB164_163.out; have hnc91 := NB163_164.out; have hnb92 := NB164_170.out; have hnc92 := NB170_164.out; obtain ⟨hcz93_0, hcz93_1, hcz93_2⟩ := hc3 BK164.out; obtain ⟨hfz93_0, hfz93_1, hfz93_2⟩ := hf3 BK164.out))
              refine bodyPost_ret (results_ct rfl _ _ gb164 24 #[.int .i64 t181, .int .i64 t182, .int .i64 t183] (0, 0) _ rfl (kp (p3_2 (kp (p3_1 (kp (p3_0 (kp BK164.out))))))) Tryd.underlying24 rfl (by kernel_rfl)) rfl ?_
              exact ⟨by first | rfl | (simp [errW_none, errW_some] <;> rfl) | (simp [*, errW_none, errW_some] <;> rfl), bl HB.out⟩

/-! ### drachmlaw02_awake: function 10 -/
def drachmlaw02_awake.f (k : Nat)  : Option (Bool) := (frac_Make.f k 3 8 0).bind fun bt185 => ((frac_Make.f k 120 (-9) 1).bind fun bt190 => ((frac_Make.f k 2 3 0).bind fun bt195 => ((frac_Make.f k 15 1 0).bind fun bt200 => ((frac_Mul.f k bt195.1 bt195.2.1 bt195.2.2.1 bt200.1 bt200.2.1 bt200.2.2.1).bind fun bt205 => (if (bt185.1 == 375 && (bt185.2.1 == 1 && (bt185.2.2.1 == (-3)))) = true then (if (bt190.1 == (-4) && (bt190.2.1 == 3 && (bt190.2.2.1 == 2))) = true then (if (bt205.1 == 1 && (bt205.2.1 == 1 && (bt205.2.2.1 == 1))) = true then (some (bt205.2.2.2 == 0)) else (some false)) else (some false)) else (some false))))))
theorem drachmlaw02_awake.mono : ∀ k, LeO (drachmlaw02_awake.f k ) (drachmlaw02_awake.f (k + 1) ) := by
 intro  k
 unfold drachmlaw02_awake.f
 repeat' first
   | (with_reducible exact frac_Make.mono _ _ _ _)
   | (with_reducible exact frac_Mul.mono _ _ _ _ _ _ _)
   | (with_reducible exact LeO.refl _)
   | (with_reducible exact LeO.none _)
   | (with_reducible refine LeO.ite ?_ ?_)
   | (with_reducible refine LeO.bind ?_ (fun _ => ?_))
   | exact frac_Make.mono _ _ _ _
   | exact frac_Mul.mono _ _ _ _ _ _ _
   | exact LeO.none _
   | refine LeO.ite ?_ ?_
   | refine LeO.bind ?_ (fun _ => ?_)
set_option maxHeartbeats 8000000 in
set_option maxRecDepth 100000 in
theorem drachmlaw02_awake.calls (k : Nat)  (r : Bool) (w : World) (hG : Glob [1] w) (h : drachmlaw02_awake.f k  = some r) :
  Calls Tryd.prog 10 #[] w fun e w' => e = .returned (.bool r) ∧ Below w.heap.size w w' := by
 have hu24 := Tryd.underlying24
 have HB := Aside0.mk (Below.refl w.heap.size w)
 have H : ((frac_Make.f k 3 8 0).bind fun bt185 => ((frac_Make.f k 120 (-9) 1).bind fun bt190 => ((frac_Make.f k 2 3 0).bind fun bt195 => ((frac_Make.f k 15 1 0).bind fun bt200 => ((frac_Mul.f k bt195.1 bt195.2.1 bt195.2.2.1 bt200.1 bt200.2.1 bt200.2.2.1).bind fun bt205 => (if (bt185.1 == 375 && (bt185.2.1 == 1 && (bt185.2.2.1 == (-3)))) = true then (if (bt190.1 == (-4) && (bt190.2.1 == 3 && (bt190.2.2.1 == 2))) = true then (if (bt205.1 == 1 && (bt205.2.1 == 1 && (bt205.2.2.1 == 1))) = true then (some (bt205.2.2.2 == 0)) else (some false)) else (some false)) else (some false))))))) = some r := h
 clear h
 replace H := Option.bind_eq_some_iff.mp H
 obtain ⟨⟨t185, t186, t187, t188⟩, A10, H⟩ := H
 replace H : ((frac_Make.f k 120 (-9) 1).bind fun bt190 => ((frac_Make.f k 2 3 0).bind fun bt195 => ((frac_Make.f k 15 1 0).bind fun bt200 => ((frac_Mul.f k bt195.1 bt195.2.1 bt195.2.2.1 bt200.1 bt200.2.1 bt200.2.2.1).bind fun bt205 => (if (t185 == 375 && (t186 == 1 && (t187 == (-3)))) = true then (if (bt190.1 == (-4) && (bt190.2.1 == 3 && (bt190.2.2.1 == 2))) = true then (if (bt205.1 == 1 && (bt205.2.1 == 1 && (bt205.2.2.1 == 1))) = true then (some (bt205.2.2.2 == 0)) else (some false)) else (some false)) else (some false)))))) = some r := H
 have A1 := Aside0.mk A10
 clear A10
 replace H := Option.bind_eq_some_iff.mp H
 obtain ⟨⟨t190, t191, t192, t193⟩, A20, H⟩ := H
 replace H : ((frac_Make.f k 2 3 0).bind fun bt195 => ((frac_Make.f k 15 1 0).bind fun bt200 => ((frac_Mul.f k bt195.1 bt195.2.1 bt195.2.2.1 bt200.1 bt200.2.1 bt200.2.2.1).bind fun bt205 => (if (t185 == 375 && (t186 == 1 && (t187 == (-3)))) = true then (if (t190 == (-4) && (t191 == 3 && (t192 == 2))) = true then (if (bt205.1 == 1 && (bt205.2.1 == 1 && (bt205.2.2.1 == 1))) = true then (some (bt205.2.2.2 == 0)) else (some false)) else (some false)) else (some false))))) = some r := H
 have A2 := Aside0.mk A20
 clear A20
 replace H := Option.bind_eq_some_iff.mp H
 obtain ⟨⟨t195, t196, t197, t198⟩, A30, H⟩ := H
 replace H : ((frac_Make.f k 15 1 0).bind fun bt200 => ((frac_Mul.f k t195 t196 t197 bt200.1 bt200.2.1 bt200.2.2.1).bind fun bt205 => (if (t185 == 375 && (t186 == 1 && (t187 == (-3)))) = true then (if (t190 == (-4) && (t191 == 3 && (t192 == 2))) = true then (if (bt205.1 == 1 && (bt205.2.1 == 1 && (bt205.2.2.1 == 1))) = true then (some (bt205.2.2.2 == 0)) else (some false)) else (some false)) else (some false)))) = some r := H
 have A3 := Aside0.mk A30
 clear A30
 replace H := Option.bind_eq_some_iff.mp H
 obtain ⟨⟨t200, t201, t202, t203⟩, A40, H⟩ := H
 replace H : ((frac_Mul.f k t195 t196 t197 t200 t201 t202).bind fun bt205 => (if (t185 == 375 && (t186 == 1 && (t187 == (-3)))) = true then (if (t190 == (-4) && (t191 == 3 && (t192 == 2))) = true then (if (bt205.1 == 1 && (bt205.2.1 == 1 && (bt205.2.2.1 == 1))) = true then (some (bt205.2.2.2 == 0)) else (some false)) else (some false)) else (some false))) = some r := H
 have A4 := Aside0.mk A40
 clear A40
 replace H := Option.bind_eq_some_iff.mp H
 obtain ⟨⟨t205, t206, t207, t208⟩, A50, H⟩ := H
 replace H : (if (t185 == 375 && (t186 == 1 && (t187 == (-3)))) = true then (if (t190 == (-4) && (t191 == 3 && (t192 == 2))) = true then (if (t205 == 1 && (t206 == 1 && (t207 == 1))) = true then (some (t208 == 0)) else (some false)) else (some false)) else (some false)) = some r := H
 have A5 := Aside0.mk A50
 clear A50
 by_cases c6 : (t185 == 375 && (t186 == 1 && (t187 == (-3)))) = true
 ·rw [if_pos c6] at H
  have c6b0 : (t185 == 375 && (t186 == 1 && (t187 == (-3)))) = true := c6
  (try (have c6b1 : decide (t185 = 375 && (t186 == 1 && (t187 == (-3)))) = true := by simpa using c6))
  (try (have c6b2 : (t185 == 375 && (t186 == 1 && (t187 == (-3)))) = true := by simpa using c6))
  clear c6
  by_cases c7 : (t190 == (-4) && (t191 == 3 && (t192 == 2))) = true
  ·rw [if_pos c7] at H
   have c7b0 : (t190 == (-4) && (t191 == 3 && (t192 == 2))) = true := c7
   (try (have c7b1 : decide (t190 = (-4) && (t191 == 3 && (t192 == 2))) = true := by simpa using c7))
   (try (have c7b2 : (t190 == (-4) && (t191 == 3 && (t192 == 2))) = true := by simpa using c7))
   clear c7
   by_cases c8 : (t205 == 1 && (t206 == 1 && (t207 == 1))) = true
   ·rw [if_pos c8] at H
    have c8b0 : (t205 == 1 && (t206 == 1 && (t207 == 1))) = true := c8
    (try (have c8b1 : decide (t205 = 1 && (t206 == 1 && (t207 == 1))) = true := by simpa using c8))
    (try (have c8b2 : (t205 == 1 && (t206 == 1 && (t207 == 1))) = true := by simpa using c8))
    clear c8
    obtain rfl := Option.some.inj H
    go_enter Tryd.func10, Tryd.ntmps10
    go_wp2_with (first | ((with_reducible refine gate_callee (f := 11) rfl ?_); refine goesL_ (some 12) rfl rfl Tryd.func11 (by kernel_rfl) rfl #[.int .i64 3, .int .i64 8, .int .i64 0] rfl (by (try simp only [List.map_toArray, List.map_cons, List.map_nil]); first | done | rfl | (simp only [List.length_drop, List.length_take]; rfl)) ?_; (with_reducible refine (frac_Make.calls k 3 8 0 t185 t186 t187 t188 _ (Glob.use hG (by decide) (bl HB.out)) A1.out).mono ?_); rintro e w9 ⟨rfl, hb⟩; refine ⟨_, rfl, ?_⟩; replace HB := Aside0.mk (below_step (bl HB.out) hb); (try clear hb); (try clear hb2); (try clear hk); (try clear hi)) | ((with_reducible refine gate_dst (N := 1) rfl ?_); refine box_event ?hg (N := 1) ?hd (cs := #[.int .i64 0, .int .i64 0, .int .i64 0]) (t := 24) ?hr ?_; (case hd => rfl); (case hg => rfl); (case hr => first | (go_simp; done) | (go_simp; rfl)); intro gb189 hg w10 hbox hb; have n0_ := Aside0.mk (below_step (bl HB.out) hb); have n1_ := Aside0.mk (hbox); have n2_ := Aside0.mk ((by rw [hg]; exact (below_size (bl HB.out)) : w.heap.size ≤ gb189)); have n3_ := Aside0.mk ((by rw [hg]; exact (below_size (bl HB.out)) : w.heap.size ≤ gb189)); clear HB; have HB := n0_; have BK189 := n1_; have GW189 := n2_; have GE189 := n3_; clear n0_ n1_ n2_ n3_; clear hb hbox hg; obtain ⟨hcz11_0, hcz11_1, hcz11_2⟩ := hc3 BK189.out; obtain ⟨hfz11_0, hfz11_1, hfz11_2⟩ := hf3 BK189.out) | ((with_reducible refine gate_callee (f := 11) rfl ?_); refine goesL_ (some 16) rfl rfl Tryd.func11 (by kernel_rfl) rfl #[.int .i64 120, .int .i64 (-9), .int .i64 1] rfl (by (try simp only [List.map_toArray, List.map_cons, List.map_nil]); first | done | rfl | (simp only [List.length_drop, List.length_take]; rfl)) ?_; (with_reducible refine (frac_Make.calls k 120 (-9) 1 t190 t191 t192 t193 _ (Glob.use hG (by decide) (bl HB.out)) A2.out).mono ?_); rintro e w12 ⟨rfl, hb⟩; refine ⟨_, rfl, ?_⟩; replace BK189 := Aside0.mk (blk_below (kp (p3_2 (kp (p3_1 (kp (p3_0 (kp BK189.out))))))) hb); replace HB := Aside0.mk (below_step (bl HB.out) hb); (try clear hb); (try clear hb2); (try clear hk); (try clear hi)) | ((with_reducible refine gate_dst (N := 3) rfl ?_); refine box_event ?hg (N := 3) ?hd (cs := #[.int .i64 0, .int .i64 0, .int .i64 0]) (t := 24) ?hr ?_; (case hd => rfl); (case hg => rfl); (case hr => first | (go_simp; done) | (go_simp; rfl)); intro gb194 hg w13 hbox hb; have n0_ := Aside0.mk (blk_below (kp BK189.out) hb); have n1_ := Aside0.mk (below_step (bl HB.out) hb); have n2_ := Aside0.mk (hbox); have n3_ := Aside0.mk ((by rw [hg]; exact (below_size (bl HB.out)) : w.heap.size ≤ gb194)); have n4_ := Aside0.mk ((by rw [hg]; exact (below_size (bl HB.out)) : w.heap.size ≤ gb194)); have n5_ := Aside0.mk ((by rw [hg]; exact Nat.ne_of_lt (blk_lt (kp BK189.out)) : gb189 ≠ gb194)); have n6_ := Aside0.mk ((by rw [hg]; exact Nat.ne_of_gt (blk_lt (kp BK189.out)) : gb194 ≠ gb189)); clear BK189; clear HB; have BK189 := n0_; have HB := n1_; have BK194 := n2_; have GW194 := n3_; have GE194 := n4_; have NB189_194 := n5_; have NB194_189 := n6_; clear n0_ n1_ n2_ n3_ n4_ n5_ n6_; clear hb hbox hg; have hnb14 := NB194_189.out; have hnc14 := NB189_194.out; obtain ⟨hcz15_0, hcz15_1, hcz15_2⟩ := hc3 BK194.out; obtain ⟨hfz15_0, hfz15_1, hfz15_2⟩ := hf3 BK194.out) | ((with_reducible refine gate_callee (f := 11) rfl ?_); refine goesL_ (some 20) rfl rfl Tryd.func11 (by kernel_rfl) rfl #[.int .i64 2, .int .i64 3, .int .i64 0] rfl (by (try simp only [List.map_toArray, List.map_cons, List.map_nil]); first | done | rfl | (simp only [List.length_drop, List.length_take]; rfl)) ?_; (with_reducible refine (frac_Make.calls k 2 3 0 t195 t196 t197 t198 _ (Glob.use hG (by decide) (bl HB.out)) A3.out).mono ?_); rintro e w16 ⟨rfl, hb⟩; refine ⟨_, rfl, ?_⟩; replace BK189 := Aside0.mk (blk_below (kp BK189.out) hb); replace BK194 := Aside0.mk (blk_below (kp (p3_2 (kp (p3_1 (kp (p3_0 (kp BK194.out))))))) hb); replace HB := Aside0.mk (below_step (bl HB.out) hb); (try clear hb); (try clear hb2); (try clear hk); (try clear hi)) | ((with_reducible refine gate_dst (N := 5) rfl ?_); refine box_event ?hg (N := 5) ?hd (cs := #[.int .i64 0, .int .i64 0, .int .i64 0]) (t := 24) ?hr ?_; (case hd => rfl); (case hg => rfl); (case hr => first | (go_simp; done) | (go_simp; rfl)); intro gb199 hg w17 hbox hb; have n0_ := Aside0.mk (blk_below (kp BK189.out) hb); have n1_ := Aside0.mk (blk_below (kp BK194.out) hb); have n2_ := Aside0.mk (below_step (bl HB.out) hb); have n3_ := Aside0.mk (hbox); have n4_ := Aside0.mk ((by rw [hg]; exact (below_size (bl HB.out)) : w.heap.size ≤ gb199)); have n5_ := Aside0.mk ((by rw [hg]; exact (below_size (bl HB.out)) : w.heap.size ≤ gb199)); have n6_ := Aside0.mk ((by rw [hg]; exact Nat.ne_of_lt (blk_lt (kp BK189.out)) : gb189 ≠ gb199)); have n7_ := Aside0.mk ((by rw [hg]; exact Nat.ne_of_gt (blk_lt (kp BK189.out)) : gb199 ≠ gb189)); have n8_ := Aside0.mk ((by rw [hg]; exact Nat.ne_of_lt (blk_lt (kp BK194.out)) : gb194 ≠ gb199)); have n9_ := Aside0.mk ((by rw [hg]; exact Nat.ne_of_gt (blk_lt (kp BK194.out)) : gb199 ≠ gb194)); clear BK189; clear BK194; clear HB; have BK189 := n0_; have BK194 := n1_; have HB := n2_; have BK199 := n3_; have GW199 := n4_; have GE199 := n5_; have NB189_199 := n6_; have NB199_189 := n7_; have NB194_199 := n8_; have NB199_194 := n9_; clear n0_ n1_ n2_ n3_ n4_ n5_ n6_ n7_ n8_ n9_; clear hb hbox hg; have hnb18 := NB199_189.out; have hnc18 := NB189_199.out; have hnb19 := NB199_194.out; have hnc19 := NB194_199.out; obtain ⟨hcz20_0, hcz20_1, hcz20_2⟩ := hc3 BK199.out; obtain ⟨hfz20_0, hfz20_1, hfz20_2⟩ := hf3 BK199.out) | ((with_reducible refine gate_callee (f := 11) rfl ?_); refine goesL_ (some 24) rfl rfl Tryd.func11 (by kernel_rfl) rfl #[.int .i64 15, .int .i64 1, .int .i64 0] rfl (by (try simp only [List.map_toArray, List.map_cons, List.map_nil]); first | done | rfl | (simp only [List.length_drop, List.length_take]; rfl)) ?_; (with_reducible refine (frac_Make.calls k 15 1 0 t200 t201 t202 t203 _ (Glob.use hG (by decide) (bl HB.out)) A4.out).mono ?_); rintro e w21 ⟨rfl, hb⟩; refine ⟨_, rfl, ?_⟩; replace BK189 := Aside0.mk (blk_below (kp BK189.out) hb); replace BK194 := Aside0.mk (blk_below (kp BK194.out) hb); replace BK199 := Aside0.mk (blk_below (kp (p3_2 (kp (p3_1 (kp (p3_0 (kp BK199.out))))))) hb); replace HB := Aside0.mk (below_step (bl HB.out) hb); (try clear hb); (try clear hb2); (try clear hk); (try clear hi)) | ((with_reducible refine gate_dst (N := 7) rfl ?_); refine box_event ?hg (N := 7) ?hd (cs := #[.int .i64 0, .int .i64 0, .int .i64 0]) (t := 24) ?hr ?_; (case hd => rfl); (case hg => rfl); (case hr => first | (go_simp; done) | (go_simp; rfl)); intro gb204 hg w22 hbox hb; have n0_ := Aside0.mk (blk_below (kp BK189.out) hb); have n1_ := Aside0.mk (blk_below (kp BK194.out) hb); have n2_ := Aside0.mk (blk_below (kp BK199.out) hb); have n3_ := Aside0.mk (below_step (bl HB.out) hb); have n4_ := Aside0.mk (hbox); have n5_ := Aside0.mk ((by rw [hg]; exact (below_size (bl HB.out)) : w.heap.size ≤ gb204)); have n6_ := Aside0.mk ((by rw [hg]; exact (below_size (bl HB.out)) : w.heap.size ≤ gb204)); have n7_ := Aside0.mk ((by rw [hg]; exact Nat.ne_of_lt (blk_lt (kp BK189.out)) : gb189 ≠ gb204)); have n8_ := Aside0.mk ((by rw [hg]; exact Nat.ne_of_gt (blk_lt (kp BK189.out)) : gb204 ≠ gb189)); have n9_ := Aside0.mk ((by rw [hg]; exact Nat.ne_of_lt (blk_lt (kp BK194.out)) : gb194 ≠ gb204)); have n10_ := Aside0.mk ((by rw [hg]; exact Nat.ne_of_gt (blk_lt (kp BK194.out)) : gb204 ≠ gb194)); have n11_ := Aside0.mk ((by rw [hg]; exact Nat.ne_of_lt (blk_lt (kp BK199.out)) : gb199 ≠ gb204)); have n12_ := Aside0.mk ((by rw [hg]; exact Nat.ne_of_gt (blk_lt (kp BK199.out)) : gb204 ≠ gb199)); clear BK189; clear BK194; clear BK199; clear HB; have BK189 := n0_; have BK194 := n1_; have BK199 := n2_; have HB := n3_; have BK204 := n4_; have GW204 := n5_; have GE204 := n6_; have NB189_204 := n7_; have NB204_189 := n8_; have NB194_204 := n9_; have NB204_194 := n10_; have NB199_204 := n11_; have NB204_199 := n12_; clear n0_ n1_ n2_ n3_ n4_ n5_ n6_ n7_ n8_ n9_ n10_ n11_ n12_; clear hb hbox hg; have hnb23 := NB204_189.out; have hnc23 := NB189_204.out; have hnb24 := NB204_194.out; have hnc24 := NB194_204.out; have hnb25 := NB204_199.out; have hnc25 := NB199_204.out; obtain ⟨hcz26_0, hcz26_1, hcz26_2⟩ := hc3 BK204.out; obtain ⟨hfz26_0, hfz26_1, hfz26_2⟩ := hf3 BK204.out; obtain ⟨hcz27_0, hcz27_1, hcz27_2⟩ := hc3 BK199.out; obtain ⟨hfz27_0, hfz27_1, hfz27_2⟩ := hf3 BK199.out) | ((with_reducible refine gate_callee (f := 16) rfl ?_); refine goesL_ (some 30) rfl rfl Tryd.func16 (by kernel_rfl) rfl #[.agg #[.int .i64 t195, .int .i64 t196, .int .i64 t197], .agg #[.int .i64 t200, .int .i64 t201, .int .i64 t202]] rfl (by (try simp only [List.map_toArray, List.map_cons, List.map_nil]); first | done | rfl | (simp only [List.length_drop, List.length_take]; rfl)) ?_; (with_reducible refine (frac_Mul.calls k t195 t196 t197 t200 t201 t202 t205 t206 t207 t208 _ (Glob.use hG (by decide) (bl HB.out)) A5.out).mono ?_); rintro e w28 ⟨rfl, hb⟩; refine ⟨_, rfl, ?_⟩; replace BK189 := Aside0.mk (blk_below (kp BK189.out) hb); replace BK194 := Aside0.mk (blk_below (kp BK194.out) hb); replace BK199 := Aside0.mk (blk_below (kp BK199.out) hb); replace BK204 := Aside0.mk (blk_below (kp (p3_2 (kp (p3_1 (kp (p3_0 (kp BK204.out))))))) hb); replace HB := Aside0.mk (below_step (bl HB.out) hb); (try clear hb); (try clear hb2); (try clear hk); (try clear hi)) | ((with_reducible refine gate_dst (N := 9) rfl ?_); refine box_event ?hg (N := 9) ?hd (cs := #[.int .i64 0, .int .i64 0, .int .i64 0]) (t := 24) ?hr ?_; (case hd => rfl); (case hg => rfl); (case hr => first | (go_simp; done) | (go_simp; rfl)); intro gb209 hg w29 hbox hb; have n0_ := Aside0.mk (blk_below (kp BK189.out) hb); have n1_ := Aside0.mk (blk_below (kp BK194.out) hb); have n2_ := Aside0.mk (blk_below (kp BK199.out) hb); have n3_ := Aside0.mk (blk_below (kp BK204.out) hb); have n4_ := Aside0.mk (below_step (bl HB.out) hb); have n5_ := Aside0.mk (hbox); have n6_ := Aside0.mk ((by rw [hg]; exact (below_size (bl HB.out)) : w.heap.size ≤ gb209)); have n7_ := Aside0.mk ((by rw [hg]; exact (below_size (bl HB.out)) : w.heap.size ≤ gb209)); have n8_ := Aside0.mk ((by rw [hg]; exact Nat.ne_of_lt (blk_lt (kp BK189.out)) : gb189 ≠ gb209)); have n9_ := Aside0.mk ((by rw [hg]; exact Nat.ne_of_gt (blk_lt (kp BK189.out)) : gb209 ≠ gb189)); have n10_ := Aside0.mk ((by rw [hg]; exact Nat.ne_of_lt (blk_lt (kp BK194.out)) : gb194 ≠ gb209)); have n11_ := Aside0.mk ((by rw [hg]; exact Nat.ne_of_gt (blk_lt (kp BK194.out)) : gb209 ≠ gb194)); have n12_ := Aside0.mk ((by rw [hg]; exact Nat.ne_of_lt (blk_lt (kp BK199.out)) : gb199 ≠ gb209)); have n13_ := Aside0.mk ((by rw [hg]; exact Nat.ne_of_gt (blk_lt (kp BK199.out)) : gb209 ≠ gb199)); have n14_ := Aside0.mk ((by rw [hg]; exact Nat.ne_of_lt (blk_lt (kp BK204.out)) : gb204 ≠ gb209)); have n15_ := Aside0.mk ((by rw [hg]; exact Nat.ne_of_gt (blk_lt (kp BK204.out)) : gb209 ≠ gb204)); clear BK189; clear BK194; clear BK199; clear BK204; clear HB; have BK189 := n0_; have BK194 := n1_; have BK199 := n2_; have BK204 := n3_; have HB := n4_; have BK209 := n5_; have GW209 := n6_; have GE209 := n7_; have NB189_209 := n8_; have NB209_189 := n9_; have NB194_209 := n10_; have NB209_194 := n11_; have NB199_209 := n12_; have NB209_199 := n13_; have NB204_209 := n14_; have NB209_204 := n15_; clear n0_ n1_ n2_ n3_ n4_ n5_ n6_ n7_ n8_ n9_ n10_ n11_ n12_ n13_ n14_ n15_; clear hb hbox hg; have hnb30 := NB209_189.out; have hnc30 := NB189_209.out; have hnb31 := NB209_194.out; have hnc31 := NB194_209.out; have hnb32 := NB209_199.out; have hnc32 := NB199_209.out; have hnb33 := NB209_204.out; have hnc33 := NB204_209.out; obtain ⟨hcz34_0, hcz34_1, hcz34_2⟩ := hc3 BK209.out; obtain ⟨hfz34_0, hfz34_1, hfz34_2⟩ := hf3 BK209.out; obtain ⟨hcz35_0, hcz35_1, hcz35_2⟩ := hc3 BK189.out; obtain ⟨hfz35_0, hfz35_1, hfz35_2⟩ := hf3 BK189.out; obtain ⟨hcz36_0, hcz36_1, hcz36_2⟩ := hc3 BK194.out; obtain ⟨hfz36_0, hfz36_1, hfz36_2⟩ := hf3 BK194.out))
    go_ret
    exact ⟨by first | rfl | (simp [errW_none, errW_some] <;> rfl) | (simp [*, errW_none, errW_some] <;> rfl), bl HB.out⟩
   ·rw [if_neg c8] at H
    have c8b0 : (t205 == 1 && (t206 == 1 && (t207 == 1))) = false := by simpa using c8
    (try (have c8b1 : decide (t205 = 1 && (t206 == 1 && (t207 == 1))) = false := by simpa using c8))
    (try (have c8b2 : (t205 == 1 && (t206 == 1 && (t207 == 1))) = false := by simpa using c8))
    (try (have c8b3 : ¬ (t205 = 1 && (t206 == 1 && (t207 == 1))) := by simpa using c8))
    clear c8
    obtain rfl := Option.some.inj H
    go_enter Tryd.func10, Tryd.ntmps10
    go_wp2_with (first | ((with_reducible refine gate_callee (f := 11) rfl ?_); refine goesL_ (some 12) rfl rfl Tryd.func11 (by kernel_rfl) rfl #[.int .i64 3, .int .i64 8, .int .i64 0] rfl (by (try simp only [List.map_toArray, List.map_cons, List.map_nil]); first | done | rfl | (simp only [List.length_drop, List.length_take]; rfl)) ?_; (with_reducible refine (frac_Make.calls k 3 8 0 t185 t186 t187 t188 _ (Glob.use hG (by decide) (bl HB.out)) A1.out).mono ?_); rintro e w37 ⟨rfl, hb⟩; refine ⟨_, rfl, ?_⟩; replace HB := Aside0.mk (below_step (bl HB.out) hb); (try clear hb); (try clear hb2); (try clear hk); (try clear hi)) | ((with_reducible refine gate_dst (N := 1) rfl ?_); refine box_event ?hg (N := 1) ?hd (cs := #[.int .i64 0, .int .i64 0, .int .i64 0]) (t := 24) ?hr ?_; (case hd => rfl); (case hg => rfl); (case hr => first | (go_simp; done) | (go_simp; rfl)); intro gb189 hg w38 hbox hb; have n0_ := Aside0.mk (below_step (bl HB.out) hb); have n1_ := Aside0.mk (hbox); have n2_ := Aside0.mk ((by rw [hg]; exact (below_size (bl HB.out)) : w.heap.size ≤ gb189)); have n3_ := Aside0.mk ((by rw [hg]; exact (below_size (bl HB.out)) : w.heap.size ≤ gb189)); clear HB; have HB := n0_; have BK189 := n1_; have GW189 := n2_; have GE189 := n3_; clear n0_ n1_ n2_ n3_; clear hb hbox hg; obtain ⟨hcz39_0, hcz39_1, hcz39_2⟩ := hc3 BK189.out; obtain ⟨hfz39_0, hfz39_1, hfz39_2⟩ := hf3 BK189.out) | ((with_reducible refine gate_callee (f := 11) rfl ?_); refine goesL_ (some 16) rfl rfl Tryd.func11 (by kernel_rfl) rfl #[.int .i64 120, .int .i64 (-9), .int .i64 1] rfl (by (try simp only [List.map_toArray, List.map_cons, List.map_nil]); first | done | rfl | (simp only [List.length_drop, List.length_take]; rfl)) ?_; (with_reducible refine (frac_Make.calls k 120 (-9) 1 t190 t191 t192 t193 _ (Glob.use hG (by decide) (bl HB.out)) A2.out).mono ?_); rintro e w40 ⟨rfl, hb⟩; refine ⟨_, rfl, ?_⟩; replace BK189 := Aside0.mk (blk_below (kp (p3_2 (kp (p3_1 (kp (p3_0 (kp BK189.out))))))) hb); replace HB := Aside0.mk (below_step (bl HB.out) hb); (try clear hb); (try clear hb2); (try clear hk); (try clear hi)) | ((with_reducible refine gate_dst (N := 3) rfl ?_); refine box_event ?hg (N := 3) ?hd (cs := #[.int .i64 0, .int .i64 0, .int .i64 0]) (t := 24) ?hr ?_; (case hd => rfl); (case hg => rfl); (case hr => first | (go_simp; done) | (go_simp; rfl)); intro gb194 hg w41 hbox hb; have n0_ := Aside0.mk (blk_below (kp BK189.out) hb); have n1_ := Aside0.mk (below_step (bl HB.out) hb); have n2_ := Aside0.mk (hbox); have n3_ := Aside0.mk ((by rw [hg]; exact (below_size (bl HB.out)) : w.heap.size ≤ gb194)); have n4_ := Aside0.mk ((by rw [hg]; exact (below_size (bl HB.out)) : w.heap.size ≤ gb194)); have n5_ := Aside0.mk ((by rw [hg]; exact Nat.ne_of_lt (blk_lt (kp BK189.out)) : gb189 ≠ gb194)); have n6_ := Aside0.mk ((by rw [hg]; exact Nat.ne_of_gt (blk_lt (kp BK189.out)) : gb194 ≠ gb189)); clear BK189; clear HB; have BK189 := n0_; have HB := n1_; have BK194 := n2_; have GW194 := n3_; have GE194 := n4_; have NB189_194 := n5_; have NB194_189 := n6_; clear n0_ n1_ n2_ n3_ n4_ n5_ n6_; clear hb hbox hg; have hnb42 := NB194_189.out; have hnc42 := NB189_194.out; obtain ⟨hcz43_0, hcz43_1, hcz43_2⟩ := hc3 BK194.out; obtain ⟨hfz43_0, hfz43_1, hfz43_2⟩ := hf3 BK194.out) | ((with_reducible refine gate_callee (f := 11) rfl ?_); refine goesL_ (some 20) rfl rfl Tryd.func11 (by kernel_rfl) rfl #[.int .i64 2, .int .i64 3, .int .i64 0] rfl (by (try simp only [List.map_toArray, List.map_cons, List.map_nil]); first | done | rfl | (simp only [List.length_drop, List.length_take]; rfl)) ?_; (with_reducible refine (frac_Make.calls k 2 3 0 t195 t196 t197 t198 _ (Glob.use hG (by decide) (bl HB.out)) A3.out).mono ?_); rintro e w44 ⟨rfl, hb⟩; refine ⟨_, rfl, ?_⟩; replace BK189 := Aside0.mk (blk_below (kp BK189.out) hb); replace BK194 := Aside0.mk (blk_below (kp (p3_2 (kp (p3_1 (kp (p3_0 (kp BK194.out))))))) hb); replace HB := Aside0.mk (below_step (bl HB.out) hb); (try clear hb); (try clear hb2); (try clear hk); (try clear hi)) | ((with_reducible refine gate_dst (N := 5) rfl ?_); refine box_event ?hg (N := 5) ?hd (cs := #[.int .i64 0, .int .i64 0, .int .i64 0]) (t := 24) ?hr ?_; (case hd => rfl); (case hg => rfl); (case hr => first | (go_simp; done) | (go_simp; rfl)); intro gb199 hg w45 hbox hb; have n0_ := Aside0.mk (blk_below (kp BK189.out) hb); have n1_ := Aside0.mk (blk_below (kp BK194.out) hb); have n2_ := Aside0.mk (below_step (bl HB.out) hb); have n3_ := Aside0.mk (hbox); have n4_ := Aside0.mk ((by rw [hg]; exact (below_size (bl HB.out)) : w.heap.size ≤ gb199)); have n5_ := Aside0.mk ((by rw [hg]; exact (below_size (bl HB.out)) : w.heap.size ≤ gb199)); have n6_ := Aside0.mk ((by rw [hg]; exact Nat.ne_of_lt (blk_lt (kp BK189.out)) : gb189 ≠ gb199)); have n7_ := Aside0.mk ((by rw [hg]; exact Nat.ne_of_gt (blk_lt (kp BK189.out)) : gb199 ≠ gb189)); have n8_ := Aside0.mk ((by rw [hg]; exact Nat.ne_of_lt (blk_lt (kp BK194.out)) : gb194 ≠ gb199)); have n9_ := Aside0.mk ((by rw [hg]; exact Nat.ne_of_gt (blk_lt (kp BK194.out)) : gb199 ≠ gb194)); clear BK189; clear BK194; clear HB; have BK189 := n0_; have BK194 := n1_; have HB := n2_; have BK199 := n3_; have GW199 := n4_; have GE199 := n5_; have NB189_199 := n6_; have NB199_189 := n7_; have NB194_199 := n8_; have NB199_194 := n9_; clear n0_ n1_ n2_ n3_ n4_ n5_ n6_ n7_ n8_ n9_; clear hb hbox hg; have hnb46 := NB199_189.out; have hnc46 := NB189_199.out; have hnb47 := NB199_194.out; have hnc47 := NB194_199.out; obtain ⟨hcz48_0, hcz48_1, hcz48_2⟩ := hc3 BK199.out; obtain ⟨hfz48_0, hfz48_1, hfz48_2⟩ := hf3 BK199.out) | ((with_reducible refine gate_callee (f := 11) rfl ?_); refine goesL_ (some 24) rfl rfl Tryd.func11 (by kernel_rfl) rfl #[.int .i64 15, .int .i64 1, .int .i64 0] rfl (by (try simp only [List.map_toArray, List.map_cons, List.map_nil]); first | done | rfl | (simp only [List.length_drop, List.length_take]; rfl)) ?_; (with_reducible refine (frac_Make.calls k 15 1 0 t200 t201 t202 t203 _ (Glob.use hG (by decide) (bl HB.out)) A4.out).mono ?_); rintro e w49 ⟨rfl, hb⟩; refine ⟨_, rfl, ?_⟩; replace BK189 := Aside0.mk (blk_below (kp BK189.out) hb); replace BK194 := Aside0.mk (blk_below (kp BK194.out) hb); replace BK199 := Aside0.mk (blk_below (kp (p3_2 (kp (p3_1 (kp (p3_0 (kp BK199.out))))))) hb); replace HB := Aside0.mk (below_step (bl HB.out) hb); (try clear hb); (try clear hb2); (try clear hk); (try clear hi)) | ((with_reducible refine gate_dst (N := 7) rfl ?_); refine box_event ?hg (N := 7) ?hd (cs := #[.int .i64 0, .int .i64 0, .int .i64 0]) (t := 24) ?hr ?_; (case hd => rfl); (case hg => rfl); (case hr => first | (go_simp; done) | (go_simp; rfl)); intro gb204 hg w50 hbox hb; have n0_ := Aside0.mk (blk_below (kp BK189.out) hb); have n1_ := Aside0.mk (blk_below (kp BK194.out) hb); have n2_ := Aside0.mk (blk_below (kp BK199.out) hb); have n3_ := Aside0.mk (below_step (bl HB.out) hb); have n4_ := Aside0.mk (hbox); have n5_ := Aside0.mk ((by rw [hg]; exact (below_size (bl HB.out)) : w.heap.size ≤ gb204)); have n6_ := Aside0.mk ((by rw [hg]; exact (below_size (bl HB.out)) : w.heap.size ≤ gb204)); have n7_ := Aside0.mk ((by rw [hg]; exact Nat.ne_of_lt (blk_lt (kp BK189.out)) : gb189 ≠ gb204)); have n8_ := Aside0.mk ((by rw [hg]; exact Nat.ne_of_gt (blk_lt (kp BK189.out)) : gb204 ≠ gb189)); have n9_ := Aside0.mk ((by rw [hg]; exact Nat.ne_of_lt (blk_lt (kp BK194.out)) : gb194 ≠ gb204)); have n10_ := Aside0.mk ((by rw [hg]; exact Nat.ne_of_gt (blk_lt (kp BK194.out)) : gb204 ≠ gb194)); have n11_ := Aside0.mk ((by rw [hg]; exact Nat.ne_of_lt (blk_lt (kp BK199.out)) : gb199 ≠ gb204)); have n12_ := Aside0.mk ((by rw [hg]; exact Nat.ne_of_gt (blk_lt (kp BK199.out)) : gb204 ≠ gb199)); clear BK189; clear BK194; clear BK199; clear HB; have BK189 := n0_; have BK194 := n1_; have BK199 := n2_; have HB := n3_; have BK204 := n4_; have GW204 := n5_; have GE204 := n6_; have NB189_204 := n7_; have NB204_189 := n8_; have NB194_204 := n9_; have NB204_194 := n10_; have NB199_204 := n11_; have NB204_199 := n12_; clear n0_ n1_ n2_ n3_ n4_ n5_ n6_ n7_ n8_ n9_ n10_ n11_ n12_; clear hb hbox hg; have hnb51 := NB204_189.out; have hnc51 := NB189_204.out; have hnb52 := NB204_194.out; have hnc52 := NB194_204.out; have hnb53 := NB204_199.out; have hnc53 := NB199_204.out; obtain ⟨hcz54_0, hcz54_1, hcz54_2⟩ := hc3 BK204.out; obtain ⟨hfz54_0, hfz54_1, hfz54_2⟩ := hf3 BK204.out; obtain ⟨hcz55_0, hcz55_1, hcz55_2⟩ := hc3 BK199.out; obtain ⟨hfz55_0, hfz55_1, hfz55_2⟩ := hf3 BK199.out) | ((with_reducible refine gate_callee (f := 16) rfl ?_); refine goesL_ (some 30) rfl rfl Tryd.func16 (by kernel_rfl) rfl #[.agg #[.int .i64 t195, .int .i64 t196, .int .i64 t197], .agg #[.int .i64 t200, .int .i64 t201, .int .i64 t202]] rfl (by (try simp only [List.map_toArray, List.map_cons, List.map_nil]); first | done | rfl | (simp only [List.length_drop, List.length_take]; rfl)) ?_; (with_reducible refine (frac_Mul.calls k t195 t196 t197 t200 t201 t202 t205 t206 t207 t208 _ (Glob.use hG (by decide) (bl HB.out)) A5.out).mono ?_); rintro e w56 ⟨rfl, hb⟩; refine ⟨_, rfl, ?_⟩; replace BK189 := Aside0.mk (blk_below (kp BK189.out) hb); replace BK194 := Aside0.mk (blk_below (kp BK194.out) hb); replace BK199 := Aside0.mk (blk_below (kp BK199.out) hb); replace BK204 := Aside0.mk (blk_below (kp (p3_2 (kp (p3_1 (kp (p3_0 (kp BK204.out))))))) hb); replace HB := Aside0.mk (below_step (bl HB.out) hb); (try clear hb); (try clear hb2); (try clear hk); (try clear hi)) | ((with_reducible refine gate_dst (N := 9) rfl ?_); refine box_event ?hg (N := 9) ?hd (cs := #[.int .i64 0, .int .i64 0, .int .i64 0]) (t := 24) ?hr ?_; (case hd => rfl); (case hg => rfl); (case hr => first | (go_simp; done) | (go_simp; rfl)); intro gb209 hg w57 hbox hb; have n0_ := Aside0.mk (blk_below (kp BK189.out) hb); have n1_ := Aside0.mk (blk_below (kp BK194.out) hb); have n2_ := Aside0.mk (blk_below (kp BK199.out) hb); have n3_ := Aside0.mk (blk_below (kp BK204.out) hb); have n4_ := Aside0.mk (below_step (bl HB.out) hb); have n5_ := Aside0.mk (hbox); have n6_ := Aside0.mk ((by rw [hg]; exact (below_size (bl HB.out)) : w.heap.size ≤ gb209)); have n7_ := Aside0.mk ((by rw [hg]; exact (below_size (bl HB.out)) : w.heap.size ≤ gb209)); have n8_ := Aside0.mk ((by rw [hg]; exact Nat.ne_of_lt (blk_lt (kp BK189.out)) : gb189 ≠ gb209)); have n9_ := Aside0.mk ((by rw [hg]; exact Nat.ne_of_gt (blk_lt (kp BK189.out)) : gb209 ≠ gb189)); have n10_ := Aside0.mk ((by rw [hg]; exact Nat.ne_of_lt (blk_lt (kp BK194.out)) : gb194 ≠ gb209)); have n11_ := Aside0.mk ((by rw [hg]; exact Nat.ne_of_gt (blk_lt (kp BK194.out)) : gb209 ≠ gb194)); have n12_ := Aside0.mk ((by rw [hg]; exact Nat.ne_of_lt (blk_lt (kp BK199.out)) : gb199 ≠ gb209)); have n13_ := Aside0.mk ((by rw [hg]; exact Nat.ne_of_gt (blk_lt (kp BK199.out)) : gb209 ≠ gb199)); have n14_ := Aside0.mk ((by rw [hg]; exact Nat.ne_of_lt (blk_lt (kp BK204.out)) : gb204 ≠ gb209)); have n15_ := Aside0.mk ((by rw [hg]; exact Nat.ne_of_gt (blk_lt (kp BK204.out)) : gb209 ≠ gb204)); clear BK189; clear BK194; clear BK199; clear BK204; clear HB; have BK189 := n0_; have BK194 := n1_; have BK199 := n2_; have BK204 := n3_; have HB := n4_; have BK209 := n5_; have GW209 := n6_; have GE209 := n7_; have NB189_209 := n8_; have NB209_189 := n9_; have NB194_209 := n10_; have NB209_194 := n11_; have NB199_209 := n12_; have NB209_199 := n13_; have NB204_209 := n14_; have NB209_204 := n15_; clear n0_ n1_ n2_ n3_ n4_ n5_ n6_ n7_ n8_ n9_ n10_ n11_ n12_ n13_ n14_ n15_; clear hb hbox hg; have hnb58 := NB209_189.out; have hnc58 := NB189_209.out; have hnb59 := NB209_194.out; have hnc59 := NB194_209.out; have hnb60 := NB209_199.out; have hnc60 := NB199_209.out; have hnb61 := NB209_204.out; have hnc61 := NB204_209.out; obtain ⟨hcz62_0, hcz62_1, hcz62_2⟩ := hc3 BK209.out; obtain ⟨hfz62_0, hfz62_1, hfz62_2⟩ := hf3 BK209.out; obtain ⟨hcz63_0, hcz63_1, hcz63_2⟩ := hc3 BK189.out; obtain ⟨hfz63_0, hfz63_1, hfz63_2⟩ := hf3 BK189.out; obtain ⟨hcz64_0, hcz64_1, hcz64_2⟩ := hc3 BK194.out; obtain ⟨hfz64_0, hfz64_1, hfz64_2⟩ := hf3 BK194.out))
    go_ret
    exact ⟨by first | rfl | (simp [errW_none, errW_some] <;> rfl) | (simp [*, errW_none, errW_some] <;> rfl), bl HB.out⟩
  ·rw [if_neg c7] at H
   have c7b0 : (t190 == (-4) && (t191 == 3 && (t192 == 2))) = false := by simpa using c7
   (try (have c7b1 : decide (t190 = (-4) && (t191 == 3 && (t192 == 2))) = false := by simpa using c7))
   (try (have c7b2 : (t190 == (-4) && (t191 == 3 && (t192 == 2))) = false := by simpa using c7))
   (try (have c7b3 : ¬ (t190 = (-4) && (t191 == 3 && (t192 == 2))) := by simpa using c7))
   clear c7
   obtain rfl := Option.some.inj H
   go_enter Tryd.func10, Tryd.ntmps10
   go_wp2_with (first | ((with_reducible refine gate_callee (f := 11) rfl ?_); refine goesL_ (some 12) rfl rfl Tryd.func11 (by kernel_rfl) rfl #[.int .i64 3, .int .i64 8, .int .i64 0] rfl (by (try simp only [List.map_toArray, List.map_cons, List.map_nil]); first | done | rfl | (simp only [List.length_drop, List.length_take]; rfl)) ?_; (with_reducible refine (frac_Make.calls k 3 8 0 t185 t186 t187 t188 _ (Glob.use hG (by decide) (bl HB.out)) A1.out).mono ?_); rintro e w65 ⟨rfl, hb⟩; refine ⟨_, rfl, ?_⟩; replace HB := Aside0.mk (below_step (bl HB.out) hb); (try clear hb); (try clear hb2); (try clear hk); (try clear hi)) | ((with_reducible refine gate_dst (N := 1) rfl ?_); refine box_event ?hg (N := 1) ?hd (cs := #[.int .i64 0, .int .i64 0, .int .i64 0]) (t := 24) ?hr ?_; (case hd => rfl); (case hg => rfl); (case hr => first | (go_simp; done) | (go_simp; rfl)); intro gb189 hg w66 hbox hb; have n0_ := Aside0.mk (below_step (bl HB.out) hb); have n1_ := Aside0.mk (hbox); have n2_ := Aside0.mk ((by rw [hg]; exact (below_size (bl HB.out)) : w.heap.size ≤ gb189)); have n3_ := Aside0.mk ((by rw [hg]; exact (below_size (bl HB.out)) : w.heap.size ≤ gb189)); clear HB; have HB := n0_; have BK189 := n1_; have GW189 := n2_; have GE189 := n3_; clear n0_ n1_ n2_ n3_; clear hb hbox hg; obtain ⟨hcz67_0, hcz67_1, hcz67_2⟩ := hc3 BK189.out; obtain ⟨hfz67_0, hfz67_1, hfz67_2⟩ := hf3 BK189.out) | ((with_reducible refine gate_callee (f := 11) rfl ?_); refine goesL_ (some 16) rfl rfl Tryd.func11 (by kernel_rfl) rfl #[.int .i64 120, .int .i64 (-9), .int .i64 1] rfl (by (try simp only [List.map_toArray, List.map_cons, List.map_nil]); first | done | rfl | (simp only [List.length_drop, List.length_take]; rfl)) ?_; (with_reducible refine (frac_Make.calls k 120 (-9) 1 t190 t191 t192 t193 _ (Glob.use hG (by decide) (bl HB.out)) A2.out).mono ?_); rintro e w68 ⟨rfl, hb⟩; refine ⟨_, rfl, ?_⟩; replace BK189 := Aside0.mk (blk_below (kp (p3_2 (kp (p3_1 (kp (p3_0 (kp BK189.out))))))) hb); replace HB := Aside0.mk (below_step (bl HB.out) hb); (try clear hb); (try clear hb2); (try clear hk); (try clear hi)) | ((with_reducible refine gate_dst (N := 3) rfl ?_); refine box_event ?hg (N := 3) ?hd (cs := #[.int .i64 0, .int .i64 0, .int .i64 0]) (t := 24) ?hr ?_; (case hd => rfl); (case hg => rfl); (case hr => first | (go_simp; done) | (go_simp; rfl)); intro gb194 hg w69 hbox hb; have n0_ := Aside0.mk (blk_below (kp BK189.out) hb); have n1_ := Aside0.mk (below_step (bl HB.out) hb); have n2_ := Aside0.mk (hbox); have n3_ := Aside0.mk ((by rw [hg]; exact (below_size (bl HB.out)) : w.heap.size ≤ gb194)); have n4_ := Aside0.mk ((by rw [hg]; exact (below_size (bl HB.out)) : w.heap.size ≤ gb194)); have n5_ := Aside0.mk ((by rw [hg]; exact Nat.ne_of_lt (blk_lt (kp BK189.out)) : gb189 ≠ gb194)); have n6_ := Aside0.mk ((by rw [hg]; exact Nat.ne_of_gt (blk_lt (kp BK189.out)) : gb194 ≠ gb189)); clear BK189; clear HB; have BK189 := n0_; have HB := n1_; have BK194 := n2_; have GW194 := n3_; have GE194 := n4_; have NB189_194 := n5_; have NB194_189 := n6_; clear n0_ n1_ n2_ n3_ n4_ n5_ n6_; clear hb hbox hg; have hnb70 := NB194_189.out; have hnc70 := NB189_194.out; obtain ⟨hcz71_0, hcz71_1, hcz71_2⟩ := hc3 BK194.out; obtain ⟨hfz71_0, hfz71_1, hfz71_2⟩ := hf3 BK194.out) | ((with_reducible refine gate_callee (f := 11) rfl ?_); refine goesL_ (some 20) rfl rfl Tryd.func11 (by kernel_rfl) rfl #[.int .i64 2, .int .i64 3, .int .i64 0] rfl (by (try simp only [List.map_toArray, List.map_cons, List.map_nil]); first | done | rfl | (simp only [List.length_drop, List.length_take]; rfl)) ?_; (with_reducible refine (frac_Make.calls k 2 3 0 t195 t196 t197 t198 _ (Glob.use hG (by decide) (bl HB.out)) A3.out).mono ?_); rintro e w72 ⟨rfl, hb⟩; refine ⟨_, rfl, ?_⟩; replace BK189 := Aside0.mk (blk_below (kp BK189.out) hb); replace BK194 := Aside0.mk (blk_below (kp (p3_2 (kp (p3_1 (kp (p3_0 (kp BK194.out))))))) hb); replace HB := Aside0.mk (below_step (bl HB.out) hb); (try clear hb); (try clear hb2); (try clear hk); (try clear hi)) | ((with_reducible refine gate_dst (N := 5) rfl ?_); refine box_event ?hg (N := 5) ?hd (cs := #[.int .i64 0, .int .i64 0, .int .i64 0]) (t := 24) ?hr ?_; (case hd => rfl); (case hg => rfl); (case hr => first | (go_simp; done) | (go_simp; rfl)); intro gb199 hg w73 hbox hb; have n0_ := Aside0.mk (blk_below (kp BK189.out) hb); have n1_ := Aside0.mk (blk_below (kp BK194.out) hb); have n2_ := Aside0.mk (below_step (bl HB.out) hb); have n3_ := Aside0.mk (hbox); have n4_ := Aside0.mk ((by rw [hg]; exact (below_size (bl HB.out)) : w.heap.size ≤ gb199)); have n5_ := Aside0.mk ((by rw [hg]; exact (below_size (bl HB.out)) : w.heap.size ≤ gb199)); have n6_ := Aside0.mk ((by rw [hg]; exact Nat.ne_of_lt (blk_lt (kp BK189.out)) : gb189 ≠ gb199)); have n7_ := Aside0.mk ((by rw [hg]; exact Nat.ne_of_gt (blk_lt (kp BK189.out)) : gb199 ≠ gb189)); have n8_ := Aside0.mk ((by rw [hg]; exact Nat.ne_of_lt (blk_lt (kp BK194.out)) : gb194 ≠ gb199)); have n9_ := Aside0.mk ((by rw [hg]; exact Nat.ne_of_gt (blk_lt (kp BK194.out)) : gb199 ≠ gb194)); clear BK189; clear BK194; clear HB; have BK189 := n0_; have BK194 := n1_; have HB := n2_; have BK199 := n3_; have GW199 := n4_; have GE199 := n5_; have NB189_199 := n6_; have NB199_189 := n7_; have NB194_199 := n8_; have NB199_194 := n9_; clear n0_ n1_ n2_ n3_ n4_ n5_ n6_ n7_ n8_ n9_; clear hb hbox hg; have hnb74 := NB199_189.out; have hnc74 := NB189_199.out; have hnb75 := NB199_194.out; have hnc75 := NB194_199.out; obtain ⟨hcz76_0, hcz76_1, hcz76_2⟩ := hc3 BK199.out; obtain ⟨hfz76_0, hfz76_1, hfz76_2⟩ := hf3 BK199.out) | ((with_reducible refine gate_callee (f := 11) rfl ?_); refine goesL_ (some 24) rfl rfl Tryd.func11 (by kernel_rfl) rfl #[.int .i64 15, .int .i64 1, .int .i64 0] rfl (by (try simp only [List.map_toArray, List.map_cons, List.map_nil]); first | done | rfl | (simp only [List.length_drop, List.length_take]; rfl)) ?_; (with_reducible refine (frac_Make.calls k 15 1 0 t200 t201 t202 t203 _ (Glob.use hG (by decide) (bl HB.out)) A4.out).mono ?_); rintro e w77 ⟨rfl, hb⟩; refine ⟨_, rfl, ?_⟩; replace BK189 := Aside0.mk (blk_below (kp BK189.out) hb); replace BK194 := Aside0.mk (blk_below (kp BK194.out) hb); replace BK199 := Aside0.mk (blk_below (kp (p3_2 (kp (p3_1 (kp (p3_0 (kp BK199.out))))))) hb); replace HB := Aside0.mk (below_step (bl HB.out) hb); (try clear hb); (try clear hb2); (try clear hk); (try clear hi)) | ((with_reducible refine gate_dst (N := 7) rfl ?_); refine box_event ?hg (N := 7) ?hd (cs := #[.int .i64 0, .int .i64 0, .int .i64 0]) (t := 24) ?hr ?_; (case hd => rfl); (case hg => rfl); (case hr => first | (go_simp; done) | (go_simp; rfl)); intro gb204 hg w78 hbox hb; have n0_ := Aside0.mk (blk_below (kp BK189.out) hb); have n1_ := Aside0.mk (blk_below (kp BK194.out) hb); have n2_ := Aside0.mk (blk_below (kp BK199.out) hb); have n3_ := Aside0.mk (below_step (bl HB.out) hb); have n4_ := Aside0.mk (hbox); have n5_ := Aside0.mk ((by rw [hg]; exact (below_size (bl HB.out)) : w.heap.size ≤ gb204)); have n6_ := Aside0.mk ((by rw [hg]; exact (below_size (bl HB.out)) : w.heap.size ≤ gb204)); have n7_ := Aside0.mk ((by rw [hg]; exact Nat.ne_of_lt (blk_lt (kp BK189.out)) : gb189 ≠ gb204)); have n8_ := Aside0.mk ((by rw [hg]; exact Nat.ne_of_gt (blk_lt (kp BK189.out)) : gb204 ≠ gb189)); have n9_ := Aside0.mk ((by rw [hg]; exact Nat.ne_of_lt (blk_lt (kp BK194.out)) : gb194 ≠ gb204)); have n10_ := Aside0.mk ((by rw [hg]; exact Nat.ne_of_gt (blk_lt (kp BK194.out)) : gb204 ≠ gb194)); have n11_ := Aside0.mk ((by rw [hg]; exact Nat.ne_of_lt (blk_lt (kp BK199.out)) : gb199 ≠ gb204)); have n12_ := Aside0.mk ((by rw [hg]; exact Nat.ne_of_gt (blk_lt (kp BK199.out)) : gb204 ≠ gb199)); clear BK189; clear BK194; clear BK199; clear HB; have BK189 := n0_; have BK194 := n1_; have BK199 := n2_; have HB := n3_; have BK204 := n4_; have GW204 := n5_; have GE204 := n6_; have NB189_204 := n7_; have NB204_189 := n8_; have NB194_204 := n9_; have NB204_194 := n10_; have NB199_204 := n11_; have NB204_199 := n12_; clear n0_ n1_ n2_ n3_ n4_ n5_ n6_ n7_ n8_ n9_ n10_ n11_ n12_; clear hb hbox hg; have hnb79 := NB204_189.out; have hnc79 := NB189_204.out; have hnb80 := NB204_194.out; have hnc80 := NB194_204.out; have hnb81 := NB204_199.out; have hnc81 := NB199_204.out; obtain ⟨hcz82_0, hcz82_1, hcz82_2⟩ := hc3 BK204.out; obtain ⟨hfz82_0, hfz82_1, hfz82_2⟩ := hf3 BK204.out; obtain ⟨hcz83_0, hcz83_1, hcz83_2⟩ := hc3 BK199.out; obtain ⟨hfz83_0, hfz83_1, hfz83_2⟩ := hf3 BK199.out) | ((with_reducible refine gate_callee (f := 16) rfl ?_); refine goesL_ (some 30) rfl rfl Tryd.func16 (by kernel_rfl) rfl #[.agg #[.int .i64 t195, .int .i64 t196, .int .i64 t197], .agg #[.int .i64 t200, .int .i64 t201, .int .i64 t202]] rfl (by (try simp only [List.map_toArray, List.map_cons, List.map_nil]); first | done | rfl | (simp only [List.length_drop, List.length_take]; rfl)) ?_; (with_reducible refine (frac_Mul.calls k t195 t196 t197 t200 t201 t202 t205 t206 t207 t208 _ (Glob.use hG (by decide) (bl HB.out)) A5.out).mono ?_); rintro e w84 ⟨rfl, hb⟩; refine ⟨_, rfl, ?_⟩; replace BK189 := Aside0.mk (blk_below (kp BK189.out) hb); replace BK194 := Aside0.mk (blk_below (kp BK194.out) hb); replace BK199 := Aside0.mk (blk_below (kp BK199.out) hb); replace BK204 := Aside0.mk (blk_below (kp (p3_2 (kp (p3_1 (kp (p3_0 (kp BK204.out))))))) hb); replace HB := Aside0.mk (below_step (bl HB.out) hb); (try clear hb); (try clear hb2); (try clear hk); (try clear hi)) | ((with_reducible refine gate_dst (N := 9) rfl ?_); refine box_event ?hg (N := 9) ?hd (cs := #[.int .i64 0, .int .i64 0, .int .i64 0]) (t := 24) ?hr ?_; (case hd => rfl); (case hg => rfl); (case hr => first | (go_simp; done) | (go_simp; rfl)); intro gb209 hg w85 hbox hb; have n0_ := Aside0.mk (blk_below (kp BK189.out) hb); have n1_ := Aside0.mk (blk_below (kp BK194.out) hb); have n2_ := Aside0.mk (blk_below (kp BK199.out) hb); have n3_ := Aside0.mk (blk_below (kp BK204.out) hb); have n4_ := Aside0.mk (below_step (bl HB.out) hb); have n5_ := Aside0.mk (hbox); have n6_ := Aside0.mk ((by rw [hg]; exact (below_size (bl HB.out)) : w.heap.size ≤ gb209)); have n7_ := Aside0.mk ((by rw [hg]; exact (below_size (bl HB.out)) : w.heap.size ≤ gb209)); have n8_ := Aside0.mk ((by rw [hg]; exact Nat.ne_of_lt (blk_lt (kp BK189.out)) : gb189 ≠ gb209)); have n9_ := Aside0.mk ((by rw [hg]; exact Nat.ne_of_gt (blk_lt (kp BK189.out)) : gb209 ≠ gb189)); have n10_ := Aside0.mk ((by rw [hg]; exact Nat.ne_of_lt (blk_lt (kp BK194.out)) : gb194 ≠ gb209)); have n11_ := Aside0.mk ((by rw [hg]; exact Nat.ne_of_gt (blk_lt (kp BK194.out)) : gb209 ≠ gb194)); have n12_ := Aside0.mk ((by rw [hg]; exact Nat.ne_of_lt (blk_lt (kp BK199.out)) : gb199 ≠ gb209)); have n13_ := Aside0.mk ((by rw [hg]; exact Nat.ne_of_gt (blk_lt (kp BK199.out)) : gb209 ≠ gb199)); have n14_ := Aside0.mk ((by rw [hg]; exact Nat.ne_of_lt (blk_lt (kp BK204.out)) : gb204 ≠ gb209)); have n15_ := Aside0.mk ((by rw [hg]; exact Nat.ne_of_gt (blk_lt (kp BK204.out)) : gb209 ≠ gb204)); clear BK189; clear BK194; clear BK199; clear BK204; clear HB; have BK189 := n0_; have BK194 := n1_; have BK199 := n2_; have BK204 := n3_; have HB := n4_; have BK209 := n5_; have GW209 := n6_; have GE209 := n7_; have NB189_209 := n8_; have NB209_189 := n9_; have NB194_209 := n10_; have NB209_194 := n11_; have NB199_209 := n12_; have NB209_199 := n13_; have NB204_209 := n14_; have NB209_204 := n15_; clear n0_ n1_ n2_ n3_ n4_ n5_ n6_ n7_ n8_ n9_ n10_ n11_ n12_ n13_ n14_ n15_; clear hb hbox hg; have hnb86 := NB209_189.out; have hnc86 := NB189_209.out; have hnb87 := NB209_194.out; have hnc87 := NB194_209.out; have hnb88 := NB209_199.out; have hnc88 := NB199_209.out; have hnb89 := NB209_204.out; have hnc89 := NB204_209.out; obtain ⟨hcz90_0, hcz90_1, hcz90_2⟩ := hc3 BK209.out; obtain ⟨hfz90_0, hfz90_1, hfz90_2⟩ := hf3 BK209.out; obtain ⟨hcz91_0, hcz91_1, hcz91_2⟩ := hc3 BK189.out; obtain ⟨hfz91_0, hfz91_1, hfz91_2⟩ := hf3 BK189.out; obtain ⟨hcz92_0, hcz92_1, hcz92_2⟩ := hc3 BK194.out; obtain ⟨hfz92_0, hfz92_1, hfz92_2⟩ := hf3 BK194.out))
   go_ret
   exact ⟨by first | rfl | (simp [errW_none, errW_some] <;> rfl) | (simp [*, errW_none, errW_some] <;> rfl), bl HB.out⟩
 ·rw [if_neg c6] at H
  have c6b0 : (t185 == 375 && (t186 == 1 && (t187 == (-3)))) = false := by simpa using c6
  (try (have c6b1 : decide (t185 = 375 && (t186 == 1 && (t187 == (-3)))) = false := by simpa using c6))
  (try (have c6b2 : (t185 == 375 && (t186 == 1 && (t187 == (-3)))) = false := by simpa using c6))
  (try (have c6b3 : ¬ (t185 = 375 && (t186 == 1 && (t187 == (-3)))) := by simpa using c6))
  clear c6
  obtain rfl := Option.some.inj H
  go_enter Tryd.func10, Tryd.ntmps10
  go_wp2_with (first | ((with_reducible refine gate_callee (f := 11) rfl ?_); refine goesL_ (some 12) rfl rfl Tryd.func11 (by kernel_rfl) rfl #[.int .i64 3, .int .i64 8, .int .i64 0] rfl (by (try simp only [List.map_toArray, List.map_cons, List.map_nil]); first | done | rfl | (simp only [List.length_drop, List.length_take]; rfl)) ?_; (with_reducible refine (frac_Make.calls k 3 8 0 t185 t186 t187 t188 _ (Glob.use hG (by decide) (bl HB.out)) A1.out).mono ?_); rintro e w93 ⟨rfl, hb⟩; refine ⟨_, rfl, ?_⟩; replace HB := Aside0.mk (below_step (bl HB.out) hb); (try clear hb); (try clear hb2); (try clear hk); (try clear hi)) | ((with_reducible refine gate_dst (N := 1) rfl ?_); refine box_event ?hg (N := 1) ?hd (cs := #[.int .i64 0, .int .i64 0, .int .i64 0]) (t := 24) ?hr ?_; (case hd => rfl); (case hg => rfl); (case hr => first | (go_simp; done) | (go_simp; rfl)); intro gb189 hg w94 hbox hb; have n0_ := Aside0.mk (below_step (bl HB.out) hb); have n1_ := Aside0.mk (hbox); have n2_ := Aside0.mk ((by rw [hg]; exact (below_size (bl HB.out)) : w.heap.size ≤ gb189)); have n3_ := Aside0.mk ((by rw [hg]; exact (below_size (bl HB.out)) : w.heap.size ≤ gb189)); clear HB; have HB := n0_; have BK189 := n1_; have GW189 := n2_; have GE189 := n3_; clear n0_ n1_ n2_ n3_; clear hb hbox hg; obtain ⟨hcz95_0, hcz95_1, hcz95_2⟩ := hc3 BK189.out; obtain ⟨hfz95_0, hfz95_1, hfz95_2⟩ := hf3 BK189.out) | ((with_reducible refine gate_callee (f := 11) rfl ?_); refine goesL_ (some 16) rfl rfl Tryd.func11 (by kernel_rfl) rfl #[.int .i64 120, .int .i64 (-9), .int .i64 1] rfl (by (try simp only [List.map_toArray, List.map_cons, List.map_nil]); first | done | rfl | (simp only [List.length_drop, List.length_take]; rfl)) ?_; (with_reducible refine (frac_Make.calls k 120 (-9) 1 t190 t191 t192 t193 _ (Glob.use hG (by decide) (bl HB.out)) A2.out).mono ?_); rintro e w96 ⟨rfl, hb⟩; refine ⟨_, rfl, ?_⟩; replace BK189 := Aside0.mk (blk_below (kp (p3_2 (kp (p3_1 (kp (p3_0 (kp BK189.out))))))) hb); replace HB := Aside0.mk (below_step (bl HB.out) hb); (try clear hb); (try clear hb2); (try clear hk); (try clear hi)) | ((with_reducible refine gate_dst (N := 3) rfl ?_); refine box_event ?hg (N := 3) ?hd (cs := #[.int .i64 0, .int .i64 0, .int .i64 0]) (t := 24) ?hr ?_; (case hd => rfl); (case hg => rfl); (case hr => first | (go_simp; done) | (go_simp; rfl)); intro gb194 hg w97 hbox hb; have n0_ := Aside0.mk (blk_below (kp BK189.out) hb); have n1_ := Aside0.mk (below_step (bl HB.out) hb); have n2_ := Aside0.mk (hbox); have n3_ := Aside0.mk ((by rw [hg]; exact (below_size (bl HB.out)) : w.heap.size ≤ gb194)); have n4_ := Aside0.mk ((by rw [hg]; exact (below_size (bl HB.out)) : w.heap.size ≤ gb194)); have n5_ := Aside0.mk ((by rw [hg]; exact Nat.ne_of_lt (blk_lt (kp BK189.out)) : gb189 ≠ gb194)); have n6_ := Aside0.mk ((by rw [hg]; exact Nat.ne_of_gt (blk_lt (kp BK189.out)) : gb194 ≠ gb189)); clear BK189; clear HB; have BK189 := n0_; have HB := n1_; have BK194 := n2_; have GW194 := n3_; have GE194 := n4_; have NB189_194 := n5_; have NB194_189 := n6_; clear n0_ n1_ n2_ n3_ n4_ n5_ n6_; clear hb hbox hg; have hnb98 := NB194_189.out; have hnc98 := NB189_194.out; obtain ⟨hcz99_0, hcz99_1, hcz99_2⟩ := hc3 BK194.out; obtain ⟨hfz99_0, hfz99_1, hfz99_2⟩ := hf3 BK194.out) | ((with_reducible refine gate_callee (f := 11) rfl ?_); refine goesL_ (some 20) rfl rfl Tryd.func11 (by kernel_rfl) rfl #[.int .i64 2, .int .i64 3, .int .i64 0] rfl (by (try simp only [List.map_toArray, List.map_cons, List.map_nil]); first | done | rfl | (simp only [List.length_drop, List.length_take]; rfl)) ?_; (with_reducible refine (frac_Make.calls k 2 3 0 t195 t196 t197 t198 _ (Glob.use hG (by decide) (bl HB.out)) A3.out).mono ?_); rintro e w100 ⟨rfl, hb⟩; refine ⟨_, rfl, ?_⟩; replace BK189 := Aside0.mk (blk_below (kp BK189.out) hb); replace BK194 := Aside0.mk (blk_below (kp (p3_2 (kp (p3_1 (kp (p3_0 (kp BK194.out))))))) hb); replace HB := Aside0.mk (below_step (bl HB.out) hb); (try clear hb); (try clear hb2); (try clear hk); (try clear hi)) | ((with_reducible refine gate_dst (N := 5) rfl ?_); refine box_event ?hg (N := 5) ?hd (cs := #[.int .i64 0, .int .i64 0, .int .i64 0]) (t := 24) ?hr ?_; (case hd => rfl); (case hg => rfl); (case hr => first | (go_simp; done) | (go_simp; rfl)); intro gb199 hg w101 hbox hb; have n0_ := Aside0.mk (blk_below (kp BK189.out) hb); have n1_ := Aside0.mk (blk_below (kp BK194.out) hb); have n2_ := Aside0.mk (below_step (bl HB.out) hb); have n3_ := Aside0.mk (hbox); have n4_ := Aside0.mk ((by rw [hg]; exact (below_size (bl HB.out)) : w.heap.size ≤ gb199)); have n5_ := Aside0.mk ((by rw [hg]; exact (below_size (bl HB.out)) : w.heap.size ≤ gb199)); have n6_ := Aside0.mk ((by rw [hg]; exact Nat.ne_of_lt (blk_lt (kp BK189.out)) : gb189 ≠ gb199)); have n7_ := Aside0.mk ((by rw [hg]; exact Nat.ne_of_gt (blk_lt (kp BK189.out)) : gb199 ≠ gb189)); have n8_ := Aside0.mk ((by rw [hg]; exact Nat.ne_of_lt (blk_lt (kp BK194.out)) : gb194 ≠ gb199)); have n9_ := Aside0.mk ((by rw [hg]; exact Nat.ne_of_gt (blk_lt (kp BK194.out)) : gb199 ≠ gb194)); clear BK189; clear BK194; clear HB; have BK189 := n0_; have BK194 := n1_; have HB := n2_; have BK199 := n3_; have GW199 := n4_; have GE199 := n5_; have NB189_199 := n6_; have NB199_189 := n7_; have NB194_199 := n8_; have NB199_194 := n9_; clear n0_ n1_ n2_ n3_ n4_ n5_ n6_ n7_ n8_ n9_; clear hb hbox hg; have hnb102 := NB199_189.out; have hnc102 := NB189_199.out; have hnb103 := NB199_194.out; have hnc103 := NB194_199.out; obtain ⟨hcz104_0, hcz104_1, hcz104_2⟩ := hc3 BK199.out; obtain ⟨hfz104_0, hfz104_1, hfz104_2⟩ := hf3 BK199.out) | ((with_reducible refine gate_callee (f := 11) rfl ?_); refine goesL_ (some 24) rfl rfl Tryd.func11 (by kernel_rfl) rfl #[.int .i64 15, .int .i64 1, .int .i64 0] rfl (by (try simp only [List.map_toArray, List.map_cons, List.map_nil]); first | done | rfl | (simp only [List.length_drop, List.length_take]; rfl)) ?_; (with_reducible refine (frac_Make.calls k 15 1 0 t200 t201 t202 t203 _ (Glob.use hG (by decide) (bl HB.out)) A4.out).mono ?_); rintro e w105 ⟨rfl, hb⟩; refine ⟨_, rfl, ?_⟩; replace BK189 := Aside0.mk (blk_below (kp BK189.out) hb); replace BK194 := Aside0.mk (blk_below (kp BK194.out) hb); replace BK199 := Aside0.mk (blk_below (kp (p3_2 (kp (p3_1 (kp (p3_0 (kp BK199.out))))))) hb); replace HB := Aside0.mk (below_step (bl HB.out) hb); (try clear hb); (try clear hb2); (try clear hk); (try clear hi)) | ((with_reducible refine gate_dst (N := 7) rfl ?_); refine box_event ?hg (N := 7) ?hd (cs := #[.int .i64 0, .int .i64 0, .int .i64 0]) (t := 24) ?hr ?_; (case hd => rfl); (case hg => rfl); (case hr => first | (go_simp; done) | (go_simp; rfl)); intro gb204 hg w106 hbox hb; have n0_ := Aside0.mk (blk_below (kp BK189.out) hb); have n1_ := Aside0.mk (blk_below (kp BK194.out) hb); have n2_ := Aside0.mk (blk_below (kp BK199.out) hb); have n3_ := Aside0.mk (below_step (bl HB.out) hb); have n4_ := Aside0.mk (hbox); have n5_ := Aside0.mk ((by rw [hg]; exact (below_size (bl HB.out)) : w.heap.size ≤ gb204)); have n6_ := Aside0.mk ((by rw [hg]; exact (below_size (bl HB.out)) : w.heap.size ≤ gb204)); have n7_ := Aside0.mk ((by rw [hg]; exact Nat.ne_of_lt (blk_lt (kp BK189.out)) : gb189 ≠ gb204)); have n8_ := Aside0.mk ((by rw [hg]; exact Nat.ne_of_gt (blk_lt (kp BK189.out)) : gb204 ≠ gb189)); have n9_ := Aside0.mk ((by rw [hg]; exact Nat.ne_of_lt (blk_lt (kp BK194.out)) : gb194 ≠ gb204)); have n10_ := Aside0.mk ((by rw [hg]; exact Nat.ne_of_gt (blk_lt (kp BK194.out)) : gb204 ≠ gb194)); have n11_ := Aside0.mk ((by rw [hg]; exact Nat.ne_of_lt (blk_lt (kp BK199.out)) : gb199 ≠ gb204)); have n12_ := Aside0.mk ((by rw [hg]; exact Nat.ne_of_gt (blk_lt (kp BK199.out)) : gb204 ≠ gb199)); clear BK189; clear BK194; clear BK199; clear HB; have BK189 := n0_; have BK194 := n1_; have BK199 := n2_; have HB := n3_; have BK204 := n4_; have GW204 := n5_; have GE204 := n6_; have NB189_204 := n7_; have NB204_189 := n8_; have NB194_204 := n9_; have NB204_194 := n10_; have NB199_204 := n11_; have NB204_199 := n12_; clear n0_ n1_ n2_ n3_ n4_ n5_ n6_ n7_ n8_ n9_ n10_ n11_ n12_; clear hb hbox hg; have hnb107 := NB204_189.out; have hnc107 := NB189_204.out; have hnb108 := NB204_194.out; have hnc108 := NB194_204.out; have hnb109 := NB204_199.out; have hnc109 := NB199_204.out; obtain ⟨hcz110_0, hcz110_1, hcz110_2⟩ := hc3 BK204.out; obtain ⟨hfz110_0, hfz110_1, hfz110_2⟩ := hf3 BK204.out; obtain ⟨hcz111_0, hcz111_1, hcz111_2⟩ := hc3 BK199.out; obtain ⟨hfz111_0, hfz111_1, hfz111_2⟩ := hf3 BK199.out) | ((with_reducible refine gate_callee (f := 16) rfl ?_); refine goesL_ (some 30) rfl rfl Tryd.func16 (by kernel_rfl) rfl #[.agg #[.int .i64 t195, .int .i64 t196, .int .i64 t197], .agg #[.int .i64 t200, .int .i64 t201, .int .i64 t202]] rfl (by (try simp only [List.map_toArray, List.map_cons, List.map_nil]); first | done | rfl | (simp only [List.length_drop, List.length_take]; rfl)) ?_; (with_reducible refine (frac_Mul.calls k t195 t196 t197 t200 t201 t202 t205 t206 t207 t208 _ (Glob.use hG (by decide) (bl HB.out)) A5.out).mono ?_); rintro e w112 ⟨rfl, hb⟩; refine ⟨_, rfl, ?_⟩; replace BK189 := Aside0.mk (blk_below (kp BK189.out) hb); replace BK194 := Aside0.mk (blk_below (kp BK194.out) hb); replace BK199 := Aside0.mk (blk_below (kp BK199.out) hb); replace BK204 := Aside0.mk (blk_below (kp (p3_2 (kp (p3_1 (kp (p3_0 (kp BK204.out))))))) hb); replace HB := Aside0.mk (below_step (bl HB.out) hb); (try clear hb); (try clear hb2); (try clear hk); (try clear hi)) | ((with_reducible refine gate_dst (N := 9) rfl ?_); refine box_event ?hg (N := 9) ?hd (cs := #[.int .i64 0, .int .i64 0, .int .i64 0]) (t := 24) ?hr ?_; (case hd => rfl); (case hg => rfl); (case hr => first | (go_simp; done) | (go_simp; rfl)); intro gb209 hg w113 hbox hb; have n0_ := Aside0.mk (blk_below (kp BK189.out) hb); have n1_ := Aside0.mk (blk_below (kp BK194.out) hb); have n2_ := Aside0.mk (blk_below (kp BK199.out) hb); have n3_ := Aside0.mk (blk_below (kp BK204.out) hb); have n4_ := Aside0.mk (below_step (bl HB.out) hb); have n5_ := Aside0.mk (hbox); have n6_ := Aside0.mk ((by rw [hg]; exact (below_size (bl HB.out)) : w.heap.size ≤ gb209)); have n7_ := Aside0.mk ((by rw [hg]; exact (below_size (bl HB.out)) : w.heap.size ≤ gb209)); have n8_ := Aside0.mk ((by rw [hg]; exact Nat.ne_of_lt (blk_lt (kp BK189.out)) : gb189 ≠ gb209)); have n9_ := Aside0.mk ((by rw [hg]; exact Nat.ne_of_gt (blk_lt (kp BK189.out)) : gb209 ≠ gb189)); have n10_ := Aside0.mk ((by rw [hg]; exact Nat.ne_of_lt (blk_lt (kp BK194.out)) : gb194 ≠ gb209)); have n11_ := Aside0.mk ((by rw [hg]; exact Nat.ne_of_gt (blk_lt (kp BK194.out)) : gb209 ≠ gb194)); have n12_ := Aside0.mk ((by rw [hg]; exact Nat.ne_of_lt (blk_lt (kp BK199.out)) : gb199 ≠ gb209)); have n13_ := Aside0.mk ((by rw [hg]; exact Nat.ne_of_gt (blk_lt (kp BK199.out)) : gb209 ≠ gb199)); have n14_ := Aside0.mk ((by rw [hg]; exact Nat.ne_of_lt (blk_lt (kp BK204.out)) : gb204 ≠ gb209)); have n15_ := Aside0.mk ((by rw [hg]; exact Nat.ne_of_gt (blk_lt (kp BK204.out)) : gb209 ≠ gb204)); clear BK189; clear BK194; clear BK199; clear BK204; clear HB; have BK189 := n0_; have BK194 := n1_; have BK199 := n2_; have BK204 := n3_; have HB := n4_; have BK209 := n5_; have GW209 := n6_; have GE209 := n7_; have NB189_209 := n8_; have NB209_189 := n9_; have NB194_209 := n10_; have NB209_194 := n11_; have NB199_209 := n12_; have NB209_199 := n13_; have NB204_209 := n14_; have NB209_204 := n15_; clear n0_ n1_ n2_ n3_ n4_ n5_ n6_ n7_ n8_ n9_ n10_ n11_ n12_ n13_ n14_ n15_; clear hb hbox hg; have hnb114 := NB209_189.out; have hnc114 := NB189_209.out; have hnb115 := NB209_194.out; have hnc115 := NB194_209.out; have hnb116 := NB209_199.out; have hnc116 := NB199_209.out; have hnb117 := NB209_204.out; have hnc117 := NB204_209.out; obtain ⟨hcz118_0, hcz118_1, hcz118_2⟩ := hc3 BK209.out; obtain ⟨hfz118_0, hfz118_1, hfz118_2⟩ := hf3 BK209.out; obtain ⟨hcz119_0, hcz119_1, hcz119_2⟩ := hc3 BK189.out; obtain ⟨hfz119_0, hfz119_1, hfz119_2⟩ := hf3 BK189.out))
  go_ret
  exact ⟨by first | rfl | (simp [errW_none, errW_some] <;> rfl) | (simp [*, errW_none, errW_some] <;> rfl), bl HB.out⟩

end Go.Proofs.YtnndaackjgnhhaaDoor.PD
