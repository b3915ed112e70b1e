/- Printed by a program of this session (wip/tools/prt.py) out of the translation: plain functions, and that the calls come to just them. No conditions beyond those that stand in each theorem. -/
import Derived.Test.YtnndaackjgnhhaaDoorPBx0
import Derived.Test.YtnndaackjgnhhaaDoorPBx2
import Derived.Test.YtnndaackjgnhhaaDoorPBx3
namespace Go.Proofs.YtnndaackjgnhhaaDoor.PB
open Go.Proofs.YtnndaackjgnhhaaDoor.Sq Go.RowKit Go.Proofs.YtnndaackjgnhhaaDoorW.PrintWords Go.Proofs.YtnndaackjgnhhaaDoorW.PrintLast Go.Proofs.YtnndaackjgnhhaaDoorW.PrintMore
attribute [local go_sem] max2_int min2_int max_two min_two max_three min_three max_four min_four   -- for this text's walks alone
set_option linter.unusedVariables false
set_option linter.unusedSimpArgs false

/-! ### drachmref02_Mul: function 35 -/
mutual
def drachmref02_Mul.j0 : Nat → Bool → Int → Int → Int → Int → Int → Int → Option (Int × Int × Int × Int)
 | 0, _, _, _, _, _, _, _ => none
 | k + 1, x16, x185000, x185001, x185002, x186000, x186001, x186002 => if x16 = true then (some (0, 0, 0, 1)) else (if x185000 = 0 then (drachmref02_Mul.j1 k true x185000 x185001 x185002 x186000 x186001 x186002) else (drachmref02_Mul.j1 k (x186000 == 0) x185000 x185001 x185002 x186000 x186001 x186002))
def drachmref02_Mul.j1 : Nat → Bool → Int → Int → Int → Int → Int → Int → Option (Int × Int × Int × Int)
 | 0, _, _, _, _, _, _, _ => none
 | k + 1, x25, x185000, x185001, x185002, x186000, x186001, x186002 => if x25 = true then (some (0, 1, 0, 0)) else ((drachmref02_of.f k x185000 x185001).bind fun bt189 => ((drachmref02_of.f k x186000 x186001).bind fun bt194 => ((drachmref02_times.f k bt189.1 bt189.2.1 bt189.2.2.1 bt189.2.2.2.1 bt189.2.2.2.2 bt194.1 bt194.2.1 bt194.2.2.1 bt194.2.2.2.1 bt194.2.2.2.2 (wrap64 (x185002 + x186002))).bind fun bt199 => (some (bt199.1, bt199.2.1, bt199.2.2.1, bt199.2.2.2)))))
end
def drachmref02_Mul.f (k : Nat) (a0_0 : Int) (a0_1 : Int) (a0_2 : Int) (a1_0 : Int) (a1_1 : Int) (a1_2 : Int) : Option (Int × Int × Int × Int) := (drachmref02_Right.f k a0_0 a0_1 a0_2).bind fun t187 => ((drachmref02_Right.f k a1_0 a1_1 a1_2).bind fun t188 => (if t187 = true then (drachmref02_Mul.j0 k (!t188) a0_0 a0_1 a0_2 a1_0 a1_1 a1_2) else (drachmref02_Mul.j0 k true a0_0 a0_1 a0_2 a1_0 a1_1 a1_2)))
theorem drachmref02_Mul.mono_l : ∀ k, (∀ y0 y1 y2 y3 y4 y5 y6, LeO (drachmref02_Mul.j0 k y0 y1 y2 y3 y4 y5 y6) (drachmref02_Mul.j0 (k + 1) y0 y1 y2 y3 y4 y5 y6)) ∧ (∀ y0 y1 y2 y3 y4 y5 y6, LeO (drachmref02_Mul.j1 k y0 y1 y2 y3 y4 y5 y6) (drachmref02_Mul.j1 (k + 1) y0 y1 y2 y3 y4 y5 y6))
 | 0 => ⟨fun _ _ _ _ _ _ _ r h => by simp [drachmref02_Mul.j0] at h, fun _ _ _ _ _ _ _ r h => by simp [drachmref02_Mul.j1] at h⟩
 | k + 1 => by
  obtain ⟨ih0, ih1⟩ := drachmref02_Mul.mono_l k
  refine ⟨?_, ?_⟩
  ·intro y0 y1 y2 y3 y4 y5 y6
   unfold drachmref02_Mul.j0
   repeat' first
   | (with_reducible exact ih0 _ _ _ _ _ _ _)
   | (with_reducible exact ih1 _ _ _ _ _ _ _)
   | (with_reducible exact drachmref02_Right.mono _ _ _ _)
   | (with_reducible exact drachmref02_of.mono _ _ _)
   | (with_reducible exact drachmref02_times.mono _ _ _ _ _ _ _ _ _ _ _ _)
   | (with_reducible exact LeO.refl _)
   | (with_reducible exact LeO.none _)
   | (with_reducible refine LeO.ite ?_ ?_)
   | (with_reducible refine LeO.bind ?_ (fun _ => ?_))
   | exact ih0 _ _ _ _ _ _ _
   | exact ih1 _ _ _ _ _ _ _
   | exact drachmref02_Right.mono _ _ _ _
   | exact drachmref02_of.mono _ _ _
   | exact drachmref02_times.mono _ _ _ _ _ _ _ _ _ _ _ _
   | exact LeO.none _
   | refine LeO.ite ?_ ?_
   | refine LeO.bind ?_ (fun _ => ?_)
  ·intro y0 y1 y2 y3 y4 y5 y6
   unfold drachmref02_Mul.j1
   repeat' first
   | (with_reducible exact ih0 _ _ _ _ _ _ _)
   | (with_reducible exact ih1 _ _ _ _ _ _ _)
   | (with_reducible exact drachmref02_Right.mono _ _ _ _)
   | (with_reducible exact drachmref02_of.mono _ _ _)
   | (with_reducible exact drachmref02_times.mono _ _ _ _ _ _ _ _ _ _ _ _)
   | (with_reducible exact LeO.refl _)
   | (with_reducible exact LeO.none _)
   | (with_reducible refine LeO.ite ?_ ?_)
   | (with_reducible refine LeO.bind ?_ (fun _ => ?_))
   | exact ih0 _ _ _ _ _ _ _
   | exact ih1 _ _ _ _ _ _ _
   | exact drachmref02_Right.mono _ _ _ _
   | exact drachmref02_of.mono _ _ _
   | exact drachmref02_times.mono _ _ _ _ _ _ _ _ _ _ _ _
   | exact LeO.none _
   | refine LeO.ite ?_ ?_
   | refine LeO.bind ?_ (fun _ => ?_)
theorem drachmref02_Mul.mono : ∀ a0 a1 a2 a3 a4 a5 k, LeO (drachmref02_Mul.f k a0 a1 a2 a3 a4 a5) (drachmref02_Mul.f (k + 1) a0 a1 a2 a3 a4 a5) := by
 intro a0 a1 a2 a3 a4 a5 k
 obtain ⟨ih0, ih1⟩ := drachmref02_Mul.mono_l k
 unfold drachmref02_Mul.f
 repeat' first
   | (with_reducible exact ih0 _ _ _ _ _ _ _)
   | (with_reducible exact ih1 _ _ _ _ _ _ _)
   | (with_reducible exact drachmref02_Right.mono _ _ _ _)
   | (with_reducible exact drachmref02_of.mono _ _ _)
   | (with_reducible exact drachmref02_times.mono _ _ _ _ _ _ _ _ _ _ _ _)
   | (with_reducible exact LeO.refl _)
   | (with_reducible exact LeO.none _)
   | (with_reducible refine LeO.ite ?_ ?_)
   | (with_reducible refine LeO.bind ?_ (fun _ => ?_))
   | exact ih0 _ _ _ _ _ _ _
   | exact ih1 _ _ _ _ _ _ _
   | exact drachmref02_Right.mono _ _ _ _
   | exact drachmref02_of.mono _ _ _
   | exact drachmref02_times.mono _ _ _ _ _ _ _ _ _ _ _ _
   | exact LeO.none _
   | refine LeO.ite ?_ ?_
   | refine LeO.bind ?_ (fun _ => ?_)
def drachmref02_Mul.T7 : Bool × List (List Nat × List Nat) := (true, [([], []), ([0], [0]), ([], []), ([2], [2]), ([1, 3], [1, 3]), ([], []), ([5], [5]), ([], []), ([7], [7]), ([6, 8, 4], [6, 8]), ([], []), ([10], [10]), ([], []), ([12], [12]), ([11, 13], [11, 13]), ([4, 9, 14, 9], [4, 9, 14]), ([15, 15, 0, 1, 2, 3, 4, 5, 6, 7, 8, 9, 10, 11, 12, 13, 14, 15], [15])])
def drachmref02_Mul.B7 : List Nat := [0, 1, 0, 4, 15, 0, 32, 0, 128, 511, 0, 1024, 0, 4096, 15360, 32767, 65535]
theorem drachmref02_Mul.tab7 : rtab .any (opsOf Tryd.f35 7) = drachmref02_Mul.T7 := by kernel_rfl
theorem drachmref02_Mul.bits7 : waitsOk drachmref02_Mul.T7.2 drachmref02_Mul.B7 = true := by kernel_rfl
set_option maxHeartbeats 8000000 in
set_option maxRecDepth 100000 in
theorem drachmref02_Mul.calls (k : Nat) (a0_0 : Int) (a0_1 : Int) (a0_2 : Int) (a1_0 : Int) (a1_1 : Int) (a1_2 : Int) (r1 : Int) (r2 : Int) (r3 : Int) (r4 : Int) (w : World) (h : drachmref02_Mul.f k a0_0 a0_1 a0_2 a1_0 a1_1 a1_2 = some (r1, r2, r3, r4)) :
  Calls Tryd.prog 35 #[.agg #[.int .i64 a0_0, .int .i64 a0_1, .int .i64 a0_2], .agg #[.int .i64 a1_0, .int .i64 a1_1, .int .i64 a1_2]] w fun e w' => e = .returned (.agg #[.int .i64 r1, .int .i64 r2, .int .i64 r3, .int .i64 r4]) ∧ Below w.heap.size w w' := by
 have hu24 := Tryd.underlying24
 have hu30 := Tryd.underlying30
 have HB := Aside0.mk (Below.refl w.heap.size w)
 have H : ((drachmref02_Right.f k a0_0 a0_1 a0_2).bind fun t187 => ((drachmref02_Right.f k a1_0 a1_1 a1_2).bind fun t188 => (if t187 = true then (drachmref02_Mul.j0 k (!t188) a0_0 a0_1 a0_2 a1_0 a1_1 a1_2) else (drachmref02_Mul.j0 k true a0_0 a0_1 a0_2 a1_0 a1_1 a1_2)))) = some (r1, r2, r3, r4) := h
 clear h
 replace H := Option.bind_eq_some_iff.mp H
 obtain ⟨t187, A30, H⟩ := H
 replace H : ((drachmref02_Right.f k a1_0 a1_1 a1_2).bind fun t188 => (if t187 = true then (drachmref02_Mul.j0 k (!t188) a0_0 a0_1 a0_2 a1_0 a1_1 a1_2) else (drachmref02_Mul.j0 k true a0_0 a0_1 a0_2 a1_0 a1_1 a1_2))) = some (r1, r2, r3, r4) := H
 have A3 := Aside0.mk A30
 clear A30
 replace H := Option.bind_eq_some_iff.mp H
 obtain ⟨t188, A40, H⟩ := H
 replace H : (if t187 = true then (drachmref02_Mul.j0 k (!t188) a0_0 a0_1 a0_2 a1_0 a1_1 a1_2) else (drachmref02_Mul.j0 k true a0_0 a0_1 a0_2 a1_0 a1_1 a1_2)) = some (r1, r2, r3, r4) := H
 have A4 := Aside0.mk A40
 clear A40
 have HC5 := Aside0.mk H
 clear H
 go_enter Tryd.func35, Tryd.ntmps35
 go_upto_region 3 with (first | ((with_reducible refine gate_dst (N := 2) rfl ?_); refine box_event ?hg (N := 2) ?hd (cs := #[.int .i64 a0_0, .int .i64 a0_1, .int .i64 a0_2]) (t := 24) ?hr ?_; (case hd => rfl); (case hg => rfl); (case hr => first | (go_simp; done) | (go_simp; rfl)); intro gb184 hg w6 hbox hb; have n0_ := Aside0.mk (below_step (bl HB.out) hb); have n1_ := Aside0.mk (hbox); have n2_ := Aside0.mk ((by rw [hg]; exact (below_size (bl HB.out)) : w.heap.size ≤ gb184)); have n3_ := Aside0.mk ((by rw [hg]; exact (below_size (bl HB.out)) : w.heap.size ≤ gb184)); clear HB; have HB := n0_; have BK184 := n1_; have GW184 := n2_; have GE184 := n3_; clear n0_ n1_ n2_ n3_; clear hb hbox hg) | ((with_reducible refine gate_dst (N := 3) rfl ?_); refine box_event ?hg (N := 3) ?hd (cs := #[.int .i64 a1_0, .int .i64 a1_1, .int .i64 a1_2]) (t := 24) ?hr ?_; (case hd => rfl); (case hg => rfl); (case hr => first | (go_simp; done) | (go_simp; rfl)); intro gb185 hg w7 hbox hb; have n0_ := Aside0.mk (blk_below (kp BK184.out) hb); have n1_ := Aside0.mk (below_step (bl HB.out) hb); have n2_ := Aside0.mk (hbox); have n3_ := Aside0.mk ((by rw [hg]; exact (below_size (bl HB.out)) : w.heap.size ≤ gb185)); have n4_ := Aside0.mk ((by rw [hg]; exact (below_size (bl HB.out)) : w.heap.size ≤ gb185)); have n5_ := Aside0.mk ((by rw [hg]; exact Nat.ne_of_lt (blk_lt (kp BK184.out)) : gb184 ≠ gb185)); have n6_ := Aside0.mk ((by rw [hg]; exact Nat.ne_of_gt (blk_lt (kp BK184.out)) : gb185 ≠ gb184)); clear BK184; clear HB; have BK184 := n0_; have HB := n1_; have BK185 := n2_; have GW185 := n3_; have GE185 := n4_; have NB184_185 := n5_; have NB185_184 := n6_; clear n0_ n1_ n2_ n3_ n4_ n5_ n6_; clear hb hbox hg) | ((with_reducible refine gate_dst (N := 4) rfl ?_); refine box_event ?hg (N := 4) ?hd (cs := #[.int .i64 0, .int .i64 0, .int .i64 0, .int .i64 0]) (t := 30) ?hr ?_; (case hd => rfl); (case hg => rfl); (case hr => first | (go_simp; done) | (go_simp; rfl)); intro gb186 hg w8 hbox hb; have n0_ := Aside0.mk (blk_below (kp BK184.out) hb); have n1_ := Aside0.mk (blk_below (kp BK185.out) hb); have n2_ := Aside0.mk (below_step (bl HB.out) hb); have n3_ := Aside0.mk (hbox); have n4_ := Aside0.mk ((by rw [hg]; exact (below_size (bl HB.out)) : w.heap.size ≤ gb186)); have n5_ := Aside0.mk ((by rw [hg]; exact (below_size (bl HB.out)) : w.heap.size ≤ gb186)); have n6_ := Aside0.mk ((by rw [hg]; exact Nat.ne_of_lt (blk_lt (kp BK184.out)) : gb184 ≠ gb186)); have n7_ := Aside0.mk ((by rw [hg]; exact Nat.ne_of_gt (blk_lt (kp BK184.out)) : gb186 ≠ gb184)); have n8_ := Aside0.mk ((by rw [hg]; exact Nat.ne_of_lt (blk_lt (kp BK185.out)) : gb185 ≠ gb186)); have n9_ := Aside0.mk ((by rw [hg]; exact Nat.ne_of_gt (blk_lt (kp BK185.out)) : gb186 ≠ gb185)); clear BK184; clear BK185; clear HB; have BK184 := n0_; have BK185 := n1_; have HB := n2_; have BK186 := n3_; have GW186 := n4_; have GE186 := n5_; have NB184_186 := n6_; have NB186_184 := n7_; have NB185_186 := n8_; have NB186_185 := n9_; clear n0_ n1_ n2_ n3_ n4_ n5_ n6_ n7_ n8_ n9_; clear hb hbox hg; have hnb9 := NB184_185.out; have hnc9 := NB185_184.out; have hnb10 := NB184_186.out; have hnc10 := NB186_184.out; obtain ⟨hcz11_0, hcz11_1, hcz11_2⟩ := hc3 BK184.out; obtain ⟨hfz11_0, hfz11_1, hfz11_2⟩ := hf3 BK184.out) | ((with_reducible refine gate_callee (f := 14) rfl ?_); refine goesL_ (some 8) rfl rfl Tryd.func14 (by kernel_rfl) rfl #[.agg #[.int .i64 a0_0, .int .i64 a0_1, .int .i64 a0_2]] rfl (by (try simp only [List.map_toArray, List.map_cons, List.map_nil]); first | done | rfl | (simp only [List.length_drop, List.length_take]; rfl)) ?_; (with_reducible refine (drachmref02_Right.calls k a0_0 a0_1 a0_2 t187 _ A3.out).mono ?_); rintro e w12 ⟨rfl, hb⟩; refine ⟨_, rfl, ?_⟩; replace BK184 := Aside0.mk (blk_below (kp BK184.out) hb); replace BK185 := Aside0.mk (blk_below (kp BK185.out) hb); replace BK186 := Aside0.mk (blk_below (kp BK186.out) hb); replace HB := Aside0.mk (below_step (bl HB.out) hb); (try clear hb); (try clear hb2); (try clear hk); (try clear hi); have hnb13 := NB185_186.out; have hnc13 := NB186_185.out; obtain ⟨hcz14_0, hcz14_1, hcz14_2⟩ := hc3 BK185.out; obtain ⟨hfz14_0, hfz14_1, hfz14_2⟩ := hf3 BK185.out) | ((with_reducible refine gate_callee (f := 14) rfl ?_); refine goesL_ (some 10) rfl rfl Tryd.func14 (by kernel_rfl) rfl #[.agg #[.int .i64 a1_0, .int .i64 a1_1, .int .i64 a1_2]] rfl (by (try simp only [List.map_toArray, List.map_cons, List.map_nil]); first | done | rfl | (simp only [List.length_drop, List.length_take]; rfl)) ?_; (with_reducible refine (drachmref02_Right.calls k a1_0 a1_1 a1_2 t188 _ A4.out).mono ?_); rintro e w15 ⟨rfl, hb⟩; refine ⟨_, rfl, ?_⟩; replace BK184 := Aside0.mk (blk_below (kp BK184.out) hb); replace BK185 := Aside0.mk (blk_below (kp BK185.out) hb); replace BK186 := Aside0.mk (blk_below (kp BK186.out) hb); replace HB := Aside0.mk (below_step (bl HB.out) hb); (try clear hb); (try clear hb2); (try clear hk); (try clear hi)))
 (try simp only [Act.put, List.setIfInBounds_toArray, List.set_cons_zero, List.set_cons_succ])
 go_cut [16] (fun v16 wc => ∃ (kq : Nat) (x16_4 : Bool), v16 = .bool x16_4 ∧ Aside0 (drachmref02_Mul.j0 kq x16_4 a0_0 a0_1 a0_2 a1_0 a1_1 a1_2 = some (r1, r2, r3, r4)) ∧ Aside0 (kq ≤ k) ∧ Aside0 (wc.heap[gb184]? = some (.cells #[.int .i64 a0_0, .int .i64 a0_1, .int .i64 a0_2] 24 (0, 0))) ∧ Aside0 (wc.heap[gb185]? = some (.cells #[.int .i64 a1_0, .int .i64 a1_1, .int .i64 a1_2] 24 (0, 0))) ∧ Aside0 (wc.heap[gb186]? = some (.cells #[.int .i64 0, .int .i64 0, .int .i64 0, .int .i64 0] 30 (0, 0))) ∧ Aside0 (Below w.heap.size w wc))
 case first =>
  have H := HC5.out
  clear HC5
  by_cases c16 : t187 = true
  ·subst c16
   have H1 : (drachmref02_Mul.j0 k (!t188) a0_0 a0_1 a0_2 a1_0 a1_1 a1_2) = some (r1, r2, r3, r4) := by rw [if_pos rfl] at H; exact H
   clear H
   have H := H1
   clear H1
   have H' := Aside0.mk H
   clear H
   go_wp2
   go_meet
   case rel => exact ⟨_, (!t188), (by first | rfl | (simp; done) | (simp [*]; done)), H', ⟨by first | omega | exact Nat.le_refl _⟩, ⟨kp BK184.out⟩, ⟨kp BK185.out⟩, ⟨kp BK186.out⟩, ⟨bl HB.out⟩⟩
  ·replace c16 := Bool.eq_false_iff.mpr c16
   subst c16
   have H1 : (drachmref02_Mul.j0 k true a0_0 a0_1 a0_2 a1_0 a1_1 a1_2) = some (r1, r2, r3, r4) := by rw [if_neg (show ¬ (false = true) by decide)] at H; exact H
   clear H
   have H := H1
   clear H1
   have H' := Aside0.mk H
   clear H
   go_wp2
   go_meet
   case rel => exact ⟨_, (true), (by first | rfl | (simp; done) | (simp [*]; done)), H', ⟨by first | omega | exact Nat.le_refl _⟩, ⟨kp BK184.out⟩, ⟨kp BK185.out⟩, ⟨kp BK186.out⟩, ⟨bl HB.out⟩⟩
 case rest =>
  clear HC5
  try clear c1
  try clear p2
  try clear c3
  try clear c9
  try clear c10
  try clear c13
  try clear c14
  try clear c16
  try clear hcz11_0
  try clear hcz11_1
  try clear hcz11_2
  try clear hcz14_0
  try clear hcz14_1
  try clear hcz14_2
  try clear hfz11_0
  try clear hfz11_1
  try clear hfz11_2
  try clear hfz14_0
  try clear hfz14_1
  try clear hfz14_2
  obtain ⟨kq, x16_4, rfl, HA, HJ4, BK184, BK185, BK186, HB⟩ := hcut
  cases kq with
  | zero => exact absurd HA.out (by simp [drachmref02_Mul.j0])
  | succ kj4 =>
   have H := HA.out
   clear HA
   simp only [drachmref02_Mul.j0] at H
   by_cases c17 : x16_4 = true
   ·subst c17
    have H1 : (some (0, 0, 0, 1)) = some (r1, r2, r3, r4) := by rw [if_pos rfl] at H; exact H
    clear H
    have H := H1
    clear H1
    simp only [Option.some.injEq, Prod.mk.injEq] at H
    obtain ⟨rfl, rfl, rfl, rfl⟩ := H
    have hnb18 := NB186_184.out
    have hnc18 := NB184_186.out
    have hnb19 := NB186_185.out
    have hnc19 := NB185_186.out
    obtain ⟨hcz20_0, hcz20_1, hcz20_2, hcz20_3⟩ := hc4 BK186.out
    obtain ⟨hfz20_0, hfz20_1, hfz20_2, hfz20_3⟩ := hf4 BK186.out
    go_wp2
    refine bodyPost_ret (results_cell_row rfl _ _ gb186 30 #[.int .i64 0, .int .i64 0, .int .i64 0, .int .i64 1] (0, 0) _ rfl (kp (p4_3 (kp (p4_2 (kp (p4_1 (kp (p4_0 (kp BK186.out))))))))) Tryd.underlying30 rfl (by kernel_rfl)) rfl ?_
    exact ⟨by first | rfl | (simp [errW_none, errW_some] <;> rfl) | (simp [*, errW_none, errW_some] <;> rfl), bl HB.out⟩
   ·replace c17 := Bool.eq_false_iff.mpr c17
    subst c17
    have H1 : (if a0_0 = 0 then (drachmref02_Mul.j1 kj4 true a0_0 a0_1 a0_2 a1_0 a1_1 a1_2) else (drachmref02_Mul.j1 kj4 (a1_0 == 0) a0_0 a0_1 a0_2 a1_0 a1_1 a1_2)) = some (r1, r2, r3, r4) := by rw [if_neg (show ¬ (false = true) by decide)] at H; exact H
    clear H
    have H := H1
    clear H1
    have HC21 := Aside0.mk H
    clear H
    go_upto_region 5 with (fail)
    go_cut [25] (fun v25 wc => ∃ (kq : Nat) (x25_20 : Bool), v25 = .bool x25_20 ∧ Aside0 (drachmref02_Mul.j1 kq x25_20 a0_0 a0_1 a0_2 a1_0 a1_1 a1_2 = some (r1, r2, r3, r4)) ∧ Aside0 (kq ≤ kj4) ∧ Aside0 (wc.heap[gb184]? = some (.cells #[.int .i64 a0_0, .int .i64 a0_1, .int .i64 a0_2] 24 (0, 0))) ∧ Aside0 (wc.heap[gb185]? = some (.cells #[.int .i64 a1_0, .int .i64 a1_1, .int .i64 a1_2] 24 (0, 0))) ∧ Aside0 (wc.heap[gb186]? = some (.cells #[.int .i64 0, .int .i64 0, .int .i64 0, .int .i64 0] 30 (0, 0))) ∧ Aside0 (Below w.heap.size w wc))
    case first =>
     have H := HC21.out
     clear HC21
     by_cases c22 : a0_0 = 0
     ·rw [if_pos c22] at H
      have c22b0 : (a0_0 == 0) = true := beq_iff_eq.mpr c22
      have c22b1 : (a0_0 != 0) = false := bne_eq_false_iff_eq.mpr c22
      clear c22
      (first | rw [c22b0] | (simp only [i64_w, i32_w]; rw [c22b0]) | skip)
      have H' := Aside0.mk H
      clear H
      have hnb23 := NB184_185.out
      have hnc23 := NB185_184.out
      have hnb24 := NB184_186.out
      have hnc24 := NB186_184.out
      obtain ⟨hcz25_0, hcz25_1, hcz25_2⟩ := hc3 BK184.out
      obtain ⟨hfz25_0, hfz25_1, hfz25_2⟩ := hf3 BK184.out
      go_wp2
      go_meet
      case rel => exact ⟨_, (true), (by first | rfl | (simp; done) | (simp [*]; done)), H', ⟨by have := HJ4.out; first | omega | exact Nat.le_refl _⟩, ⟨kp BK184.out⟩, ⟨kp BK185.out⟩, ⟨kp BK186.out⟩, ⟨bl HB.out⟩⟩
     ·rw [if_neg c22] at H
      have c22b0 : (a0_0 == 0) = false := beq_eq_false_iff_ne.mpr c22
      have c22b1 : (a0_0 != 0) = true := bne_iff_ne.mpr c22
      (first | rw [c22b0] | (simp only [i64_w, i32_w]; rw [c22b0]) | skip)
      have H' := Aside0.mk H
      clear H
      have hnb26 := NB184_185.out
      have hnc26 := NB185_184.out
      have hnb27 := NB184_186.out
      have hnc27 := NB186_184.out
      obtain ⟨hcz28_0, hcz28_1, hcz28_2⟩ := hc3 BK184.out
      obtain ⟨hfz28_0, hfz28_1, hfz28_2⟩ := hf3 BK184.out
      have hnb29 := NB185_186.out
      have hnc29 := NB186_185.out
      obtain ⟨hcz30_0, hcz30_1, hcz30_2⟩ := hc3 BK185.out
      obtain ⟨hfz30_0, hfz30_1, hfz30_2⟩ := hf3 BK185.out
      go_wp2
      go_meet
      case rel => exact ⟨_, ((a1_0 == 0)), (by first | rfl | (simp; done) | (simp [*]; done)), H', ⟨by have := HJ4.out; first | omega | exact Nat.le_refl _⟩, ⟨kp BK184.out⟩, ⟨kp BK185.out⟩, ⟨kp BK186.out⟩, ⟨bl HB.out⟩⟩
    case rest =>
     clear HC21
     try clear c1
     try clear c2
     try clear p2
     try clear c3
     try clear c9
     try clear c10
     try clear c13
     try clear c14
     try clear c16
     try clear c17
     try clear c18
     try clear c19
     try clear c22
     try clear c22b0
     try clear c22b1
     try clear c23
     try clear c24
     try clear c26
     try clear c27
     try clear c29
     try clear hcz11_0
     try clear hcz11_1
     try clear hcz11_2
     try clear hcz14_0
     try clear hcz14_1
     try clear hcz14_2
     try clear hcz20_0
     try clear hcz20_1
     try clear hcz20_2
     try clear hcz20_3
     try clear hcz25_0
     try clear hcz25_1
     try clear hcz25_2
     try clear hcz28_0
     try clear hcz28_1
     try clear hcz28_2
     try clear hcz30_0
     try clear hcz30_1
     try clear hcz30_2
     try clear hfz11_0
     try clear hfz11_1
     try clear hfz11_2
     try clear hfz14_0
     try clear hfz14_1
     try clear hfz14_2
     try clear hfz20_0
     try clear hfz20_1
     try clear hfz20_2
     try clear hfz20_3
     try clear hfz25_0
     try clear hfz25_1
     try clear hfz25_2
     try clear hfz28_0
     try clear hfz28_1
     try clear hfz28_2
     try clear hfz30_0
     try clear hfz30_1
     try clear hfz30_2
     try clear p2
     obtain ⟨kq, x25_20, rfl, HA, HJ20, BK184, BK185, BK186, HB⟩ := hcut
     cases kq with
     | zero => exact absurd HA.out (by simp [drachmref02_Mul.j1])
     | succ kj20 =>
      have H := HA.out
      clear HA
      simp only [drachmref02_Mul.j1] at H
      by_cases c31 : x25_20 = true
      ·subst c31
       have H1 : (some (0, 1, 0, 0)) = some (r1, r2, r3, r4) := by rw [if_pos rfl] at H; exact H
       clear H
       have H := H1
       clear H1
       simp only [Option.some.injEq, Prod.mk.injEq] at H
       obtain ⟨rfl, rfl, rfl, rfl⟩ := H
       have hnb32 := NB186_184.out
       have hnc32 := NB184_186.out
       have hnb33 := NB186_185.out
       have hnc33 := NB185_186.out
       obtain ⟨hcz34_0, hcz34_1, hcz34_2, hcz34_3⟩ := hc4 BK186.out
       obtain ⟨hfz34_0, hfz34_1, hfz34_2, hfz34_3⟩ := hf4 BK186.out
       go_wp2
       refine bodyPost_ret (results_cell_row rfl _ _ gb186 30 #[.int .i64 0, .int .i64 1, .int .i64 0, .int .i64 0] (0, 0) _ rfl (kp (p4_3 (kp (p4_2 (kp (p4_1 (kp (p4_0 (kp BK186.out))))))))) Tryd.underlying30 rfl (by kernel_rfl)) rfl ?_
       exact ⟨by first | rfl | (simp [errW_none, errW_some] <;> rfl) | (simp [*, errW_none, errW_some] <;> rfl), bl HB.out⟩
      ·replace c31 := Bool.eq_false_iff.mpr c31
       subst c31
       have H1 : ((drachmref02_of.f kj20 a0_0 a0_1).bind fun bt189 => ((drachmref02_of.f kj20 a1_0 a1_1).bind fun bt194 => ((drachmref02_times.f kj20 bt189.1 bt189.2.1 bt189.2.2.1 bt189.2.2.2.1 bt189.2.2.2.2 bt194.1 bt194.2.1 bt194.2.2.1 bt194.2.2.2.1 bt194.2.2.2.2 (wrap64 (a0_2 + a1_2))).bind fun bt199 => (some (bt199.1, bt199.2.1, bt199.2.2.1, bt199.2.2.2))))) = some (r1, r2, r3, r4) := by rw [if_neg (show ¬ (false = true) by decide)] at H; exact H
       clear H
       have H := H1
       clear H1
       replace H := Option.bind_eq_some_iff.mp H
       obtain ⟨⟨t189, t190, t191, t192, t193⟩, A350, H⟩ := H
       replace H : ((drachmref02_of.f kj20 a1_0 a1_1).bind fun bt194 => ((drachmref02_times.f kj20 t189 t190 t191 t192 t193 bt194.1 bt194.2.1 bt194.2.2.1 bt194.2.2.2.1 bt194.2.2.2.2 (wrap64 (a0_2 + a1_2))).bind fun bt199 => (some (bt199.1, bt199.2.1, bt199.2.2.1, bt199.2.2.2)))) = some (r1, r2, r3, r4) := H
       have A35 := Aside0.mk A350
       clear A350
       replace H := Option.bind_eq_some_iff.mp H
       obtain ⟨⟨t194, t195, t196, t197, t198⟩, A360, H⟩ := H
       replace H : ((drachmref02_times.f kj20 t189 t190 t191 t192 t193 t194 t195 t196 t197 t198 (wrap64 (a0_2 + a1_2))).bind fun bt199 => (some (bt199.1, bt199.2.1, bt199.2.2.1, bt199.2.2.2))) = some (r1, r2, r3, r4) := H
       have A36 := Aside0.mk A360
       clear A360
       replace H := Option.bind_eq_some_iff.mp H
       obtain ⟨⟨t199, t200, t201, t202⟩, A370, H⟩ := H
       replace H : (some (t199, t200, t201, t202)) = some (r1, r2, r3, r4) := H
       have A37 := Aside0.mk A370
       clear A370
       simp only [Option.some.injEq, Prod.mk.injEq] at H
       obtain ⟨rfl, rfl, rfl, rfl⟩ := H
       try go_wp2
       (try (rw [drewN_self wc]; generalize hq_ : World.drewN wc _ = wc; replace BK184 := Aside0.mk (kq hq_ BK184.out); replace BK185 := Aside0.mk (kq hq_ BK185.out); replace BK186 := Aside0.mk (kq hq_ BK186.out); replace HB := Aside0.mk (bq hq_ HB.out); clear hq_))
       replace BK184 := Aside0.mk (blk_drew BK184.out)
       replace BK185 := Aside0.mk (blk_drew BK185.out)
       replace BK186 := Aside0.mk (blk_drew BK186.out)
       replace HB := Aside0.mk (below_drew1 HB.out)
       refine start_ (n := 17) (S := fun w' => w'.cell? ⟨gb184, 0, none⟩ = some (.int .i64 a0_0) ∧ w'.cell? ⟨gb184, 1, none⟩ = some (.int .i64 a0_1) ∧ w'.cell? ⟨gb184, 2, none⟩ = some (.int .i64 a0_2) ∧ w'.cell? ⟨gb185, 0, none⟩ = some (.int .i64 a1_0) ∧ w'.cell? ⟨gb185, 1, none⟩ = some (.int .i64 a1_1) ∧ w'.cell? ⟨gb185, 2, none⟩ = some (.int .i64 a1_2)) (ds := []) #[false, false, false, false, false, false, false, false, false, false, false, false, false, false, false, false, false] (by kernel_rfl) rfl rfl ⟨(blk_cell BK184.out 0).trans rfl, (blk_cell BK184.out 1).trans rfl, (blk_cell BK184.out 2).trans rfl, (blk_cell BK185.out 0).trans rfl, (blk_cell BK185.out 1).trans rfl, (blk_cell BK185.out 2).trans rfl⟩ (fun hHeld => ?_); refine with_tabW drachmref02_Mul.tab7 drachmref02_Mul.bits7 (fun HT_ HW_ => ?_)
       generalize wc.drew = w38 at BK184 BK185 BK186 HB hHeld ⊢
       refine pure_ (i := 0) (N := some 28) (v := ?_) (a' := ?_) #[true, false, false, false, false, false, false, false, false, false, false, false, false, false, false, false, false] rfl rfl (any_of HT_.out (by kernel_rfl)) (fun _ _ _ h => h) (Or.inl ⟨by rfl, ?_⟩) ?_ ?_
       rotate_left
       ·intro w'
        go_simp
        with_reducible rfl
       rotate_left
       ·simp only [Act.put, List.setIfInBounds_toArray, List.set_cons_zero, List.set_cons_succ, i64_w, i32_w]
        rfl
       refine pure_ (i := 2) (N := some 30) (v := ?_) (a' := ?_) #[true, false, true, false, false, false, false, false, false, false, false, false, false, false, false, false, false] rfl rfl (any_of HT_.out (by kernel_rfl)) (fun _ _ _ h => h) (Or.inl ⟨by rfl, ?_⟩) ?_ ?_
       rotate_left
       ·intro w'
        go_simp
        with_reducible rfl
       rotate_left
       ·simp only [Act.put, List.setIfInBounds_toArray, List.set_cons_zero, List.set_cons_succ, i64_w, i32_w]
        rfl
       refine pure_ (i := 5) (N := some 33) (v := ?_) (a' := ?_) #[true, false, true, false, false, true, false, false, false, false, false, false, false, false, false, false, false] rfl rfl (any_of HT_.out (by kernel_rfl)) (fun _ _ _ h => h) (Or.inl ⟨by rfl, ?_⟩) ?_ ?_
       rotate_left
       ·intro w'
        go_simp
        with_reducible rfl
       rotate_left
       ·simp only [Act.put, List.setIfInBounds_toArray, List.set_cons_zero, List.set_cons_succ, i64_w, i32_w]
        rfl
       refine pure_ (i := 7) (N := some 35) (v := ?_) (a' := ?_) #[true, false, true, false, false, true, false, true, false, false, false, false, false, false, false, false, false] rfl rfl (any_of HT_.out (by kernel_rfl)) (fun _ _ _ h => h) (Or.inl ⟨by rfl, ?_⟩) ?_ ?_
       rotate_left
       ·intro w'
        go_simp
        with_reducible rfl
       rotate_left
       ·simp only [Act.put, List.setIfInBounds_toArray, List.set_cons_zero, List.set_cons_succ, i64_w, i32_w]
        rfl
       refine pure_ (i := 10) (N := some 38) (v := ?_) (a' := ?_) #[true, false, true, false, false, true, false, true, false, false, true, false, false, false, false, false, false] rfl rfl (any_of HT_.out (by kernel_rfl)) (fun _ _ _ h => h) (Or.inl ⟨by rfl, ?_⟩) ?_ ?_
       rotate_left
       ·intro w'
        go_simp
        with_reducible rfl
       rotate_left
       ·simp only [Act.put, List.setIfInBounds_toArray, List.set_cons_zero, List.set_cons_succ, i64_w, i32_w]
        rfl
       refine pure_ (i := 12) (N := some 40) (v := ?_) (a' := ?_) #[true, false, true, false, false, true, false, true, false, false, true, false, true, false, false, false, false] rfl rfl (any_of HT_.out (by kernel_rfl)) (fun _ _ _ h => h) (Or.inl ⟨by rfl, ?_⟩) ?_ ?_
       rotate_left
       ·intro w'
        go_simp
        with_reducible rfl
       rotate_left
       ·simp only [Act.put, List.setIfInBounds_toArray, List.set_cons_zero, List.set_cons_succ, i64_w, i32_w]
        rfl
       refine take_ (i := 1) (N := some 29) (v := ?_) (a' := ?_) #[true, true, true, false, false, true, false, true, false, false, true, false, true, false, false, false, false] rfl rfl (take_ofW HT_.out HW_.out (by kernel_rfl)) (fun _ _ _ h => h) (Or.inl ⟨by rfl, ?_⟩) hHeld ?_ ?_
       rotate_left
       ·rintro w' ⟨s0, s1, s2, s3, s4, s5⟩
        go_simp
        with_reducible rfl
       rotate_left
       ·simp only [Act.put, List.setIfInBounds_toArray, List.set_cons_zero, List.set_cons_succ, i64_w, i32_w]
        rfl
       refine take_ (i := 3) (N := some 31) (v := ?_) (a' := ?_) #[true, true, true, true, false, true, false, true, false, false, true, false, true, false, false, false, false] rfl rfl (take_ofW HT_.out HW_.out (by kernel_rfl)) (fun _ _ _ h => h) (Or.inl ⟨by rfl, ?_⟩) hHeld ?_ ?_
       rotate_left
       ·rintro w' ⟨s0, s1, s2, s3, s4, s5⟩
        go_simp
        with_reducible rfl
       rotate_left
       ·simp only [Act.put, List.setIfInBounds_toArray, List.set_cons_zero, List.set_cons_succ, i64_w, i32_w]
        rfl
       refine take_ (i := 6) (N := some 34) (v := ?_) (a' := ?_) #[true, true, true, true, false, true, true, true, false, false, true, false, true, false, false, false, false] rfl rfl (take_ofW HT_.out HW_.out (by kernel_rfl)) (fun _ _ _ h => h) (Or.inl ⟨by rfl, ?_⟩) hHeld ?_ ?_
       rotate_left
       ·rintro w' ⟨s0, s1, s2, s3, s4, s5⟩
        go_simp
        with_reducible rfl
       rotate_left
       ·simp only [Act.put, List.setIfInBounds_toArray, List.set_cons_zero, List.set_cons_succ, i64_w, i32_w]
        rfl
       refine take_ (i := 8) (N := some 36) (v := ?_) (a' := ?_) #[true, true, true, true, false, true, true, true, true, false, true, false, true, false, false, false, false] rfl rfl (take_ofW HT_.out HW_.out (by kernel_rfl)) (fun _ _ _ h => h) (Or.inl ⟨by rfl, ?_⟩) hHeld ?_ ?_
       rotate_left
       ·rintro w' ⟨s0, s1, s2, s3, s4, s5⟩
        go_simp
        with_reducible rfl
       rotate_left
       ·simp only [Act.put, List.setIfInBounds_toArray, List.set_cons_zero, List.set_cons_succ, i64_w, i32_w]
        rfl
       refine take_ (i := 11) (N := some 39) (v := ?_) (a' := ?_) #[true, true, true, true, false, true, true, true, true, false, true, true, true, false, false, false, false] rfl rfl (take_ofW HT_.out HW_.out (by kernel_rfl)) (fun _ _ _ h => h) (Or.inl ⟨by rfl, ?_⟩) hHeld ?_ ?_
       rotate_left
       ·rintro w' ⟨s0, s1, s2, s3, s4, s5⟩
        go_simp
        with_reducible rfl
       rotate_left
       ·simp only [Act.put, List.setIfInBounds_toArray, List.set_cons_zero, List.set_cons_succ, i64_w, i32_w]
        rfl
       refine take_ (i := 13) (N := some 41) (v := ?_) (a' := ?_) #[true, true, true, true, false, true, true, true, true, false, true, true, true, true, false, false, false] rfl rfl (take_ofW HT_.out HW_.out (by kernel_rfl)) (fun _ _ _ h => h) (Or.inl ⟨by rfl, ?_⟩) hHeld ?_ ?_
       rotate_left
       ·rintro w' ⟨s0, s1, s2, s3, s4, s5⟩
        go_simp
        with_reducible rfl
       rotate_left
       ·simp only [Act.put, List.setIfInBounds_toArray, List.set_cons_zero, List.set_cons_succ, i64_w, i32_w]
        rfl
       refine pure_ (i := 14) (N := some 42) (v := ?_) (a' := ?_) #[true, true, true, true, false, true, true, true, true, false, true, true, true, true, true, false, false] rfl rfl (any_of HT_.out (by kernel_rfl)) (fun _ _ _ h => h) (Or.inl ⟨by rfl, ?_⟩) ?_ ?_
       rotate_left
       ·intro w'
        go_simp
        with_reducible rfl
       rotate_left
       ·simp only [Act.put, List.setIfInBounds_toArray, List.set_cons_zero, List.set_cons_succ, i64_w, i32_w]
        rfl
       refine one_ (i := 4) (N := some 32) #[true, true, true, true, true, true, true, true, true, false, true, true, true, true, true, false, false] rfl rfl (one_of HT_.out (by kernel_rfl)) (by decide) (fun K hK => ?_)
       refine goes_ Tryd.func30 (by kernel_rfl) rfl #[.int .i64 a0_0, .int .i64 a0_1] (by rfl) rfl rfl (by (try simp only [List.map_toArray, List.map_cons, List.map_nil]); first | done | rfl | (simp only [List.length_drop, List.length_take]; rfl)) ?_
       with_reducible refine (drachmref02_of.calls kj20 a0_0 a0_1 t189 t190 t191 t192 t193 _ A35.out).mono ?_
       rintro e w39 ⟨rfl, hb⟩
       refine ⟨_, rfl, ?_⟩
       replace BK184 := Aside0.mk (blk_below (kp BK184.out) hb)
       replace BK185 := Aside0.mk (blk_below (kp BK185.out) hb)
       replace BK186 := Aside0.mk (blk_below (kp BK186.out) hb)
       replace HB := Aside0.mk (below_step (bl HB.out) hb)
       (try clear hb)
       (try clear hb2)
       (try clear hk)
       (try clear hi)
       refine hK.out _ _ ⟨(blk_cell BK184.out 0).trans rfl, (blk_cell BK184.out 1).trans rfl, (blk_cell BK184.out 2).trans rfl, (blk_cell BK185.out 0).trans rfl, (blk_cell BK185.out 1).trans rfl, (blk_cell BK185.out 2).trans rfl⟩ (fun hHeld => ?_)
       clear hK K
       refine norm_ (a' := ?_) ?_ ?_
       rotate_left
       ·show Act.put _ (some 32) _ = _
        simp only [Act.put, List.setIfInBounds_toArray, List.set_cons_zero, List.set_cons_succ, i64_w, i32_w]
        rfl
       refine one_ (i := 9) (N := some 37) #[true, true, true, true, true, true, true, true, true, true, true, true, true, true, true, false, false] rfl rfl (one_of HT_.out (by kernel_rfl)) (by decide) (fun K hK => ?_)
       refine goes_ Tryd.func30 (by kernel_rfl) rfl #[.int .i64 a1_0, .int .i64 a1_1] (by rfl) rfl rfl (by (try simp only [List.map_toArray, List.map_cons, List.map_nil]); first | done | rfl | (simp only [List.length_drop, List.length_take]; rfl)) ?_
       with_reducible refine (drachmref02_of.calls kj20 a1_0 a1_1 t194 t195 t196 t197 t198 _ A36.out).mono ?_
       rintro e w40 ⟨rfl, hb⟩
       refine ⟨_, rfl, ?_⟩
       replace BK184 := Aside0.mk (blk_below (kp BK184.out) hb)
       replace BK185 := Aside0.mk (blk_below (kp BK185.out) hb)
       replace BK186 := Aside0.mk (blk_below (kp BK186.out) hb)
       replace HB := Aside0.mk (below_step (bl HB.out) hb)
       (try clear hb)
       (try clear hb2)
       (try clear hk)
       (try clear hi)
       refine hK.out _ _ ⟨(blk_cell BK184.out 0).trans rfl, (blk_cell BK184.out 1).trans rfl, (blk_cell BK184.out 2).trans rfl, (blk_cell BK185.out 0).trans rfl, (blk_cell BK185.out 1).trans rfl, (blk_cell BK185.out 2).trans rfl⟩ (fun hHeld => ?_)
       clear hK K
       refine norm_ (a' := ?_) ?_ ?_
       rotate_left
       ·show Act.put _ (some 37) _ = _
        simp only [Act.put, List.setIfInBounds_toArray, List.set_cons_zero, List.set_cons_succ, i64_w, i32_w]
        rfl
       refine one_ (i := 15) (N := some 43) #[true, true, true, true, true, true, true, true, true, true, true, true, true, true, true, true, false] rfl rfl (one_of HT_.out (by kernel_rfl)) (by decide) (fun K hK => ?_)
       refine goes_ Tryd.func56 (by kernel_rfl) rfl #[.agg #[.int .i64 t189, .int .i64 t190, .int .i64 t191, .int .i64 t192, .int .i64 t193], .agg #[.int .i64 t194, .int .i64 t195, .int .i64 t196, .int .i64 t197, .int .i64 t198], .int .i64 (wrap64 (a0_2 + a1_2))] (by rfl) rfl rfl (by (try simp only [List.map_toArray, List.map_cons, List.map_nil]); first | done | rfl | (simp only [List.length_drop, List.length_take]; rfl)) ?_
       with_reducible refine (drachmref02_times.calls kj20 t189 t190 t191 t192 t193 t194 t195 t196 t197 t198 (wrap64 (a0_2 + a1_2)) t199 t200 t201 t202 _ A37.out).mono ?_
       rintro e w41 ⟨rfl, hb⟩
       refine ⟨_, rfl, ?_⟩
       replace BK184 := Aside0.mk (blk_below (kp BK184.out) hb)
       replace BK185 := Aside0.mk (blk_below (kp BK185.out) hb)
       replace BK186 := Aside0.mk (blk_below (kp BK186.out) hb)
       replace HB := Aside0.mk (below_step (bl HB.out) hb)
       (try clear hb)
       (try clear hb2)
       (try clear hk)
       (try clear hi)
       refine hK.out _ _ ⟨(blk_cell BK184.out 0).trans rfl, (blk_cell BK184.out 1).trans rfl, (blk_cell BK184.out 2).trans rfl, (blk_cell BK185.out 0).trans rfl, (blk_cell BK185.out 1).trans rfl, (blk_cell BK185.out 2).trans rfl⟩ (fun hHeld => ?_)
       clear hK K
       refine norm_ (a' := ?_) ?_ ?_
       rotate_left
       ·show Act.put _ (some 43) _ = _
        simp only [Act.put, List.setIfInBounds_toArray, List.set_cons_zero, List.set_cons_succ, i64_w, i32_w]
        rfl
       refine one_ (i := 16) (N := none) #[true, true, true, true, true, true, true, true, true, true, true, true, true, true, true, true, true] rfl rfl (one_of HT_.out (by kernel_rfl)) (by decide) (fun K hK => ?_)
       have hs42 : w41.cell? ⟨gb186, 0, none⟩ = some (.int .i64 0) := (blk_cell BK186.out 0).trans rfl
       have hfs42 := blk_frozen BK186.out 0
       have hns42_0 := NB184_186.out
       have hns42_1 := NB185_186.out
       have hms42_0 := NB186_184.out
       have hms42_1 := NB186_185.out
       have hs43 : w41.cell? ⟨gb186, 1, none⟩ = some (.int .i64 0) := (blk_cell BK186.out 1).trans rfl
       have hfs43 := blk_frozen BK186.out 1
       have hns43_0 := NB184_186.out
       have hns43_1 := NB185_186.out
       have hms43_0 := NB186_184.out
       have hms43_1 := NB186_185.out
       have hs44 : w41.cell? ⟨gb186, 2, none⟩ = some (.int .i64 0) := (blk_cell BK186.out 2).trans rfl
       have hfs44 := blk_frozen BK186.out 2
       have hns44_0 := NB184_186.out
       have hns44_1 := NB185_186.out
       have hms44_0 := NB186_184.out
       have hms44_1 := NB186_185.out
       have hs45 : w41.cell? ⟨gb186, 3, none⟩ = some (.int .i64 0) := (blk_cell BK186.out 3).trans rfl
       have hfs45 := blk_frozen BK186.out 3
       have hns45_0 := NB184_186.out
       have hns45_1 := NB185_186.out
       have hms45_0 := NB186_184.out
       have hms45_1 := NB186_185.out
       refine skip_ (w1 := ?_) (by rfl) rfl ?_ ?_
       rotate_left
       ·go_simp
        rfl
       refine hK.out _ _ ⟨((cell_far (p := ⟨gb186, _, none⟩) NB184_186.out _).trans (((cell_far (p := ⟨gb186, _, none⟩) NB184_186.out _).trans (((cell_far (p := ⟨gb186, _, none⟩) NB184_186.out _).trans (((cell_far (p := ⟨gb186, _, none⟩) NB184_186.out _).trans (hHeld.1)))))))), ((cell_far (p := ⟨gb186, _, none⟩) NB184_186.out _).trans (((cell_far (p := ⟨gb186, _, none⟩) NB184_186.out _).trans (((cell_far (p := ⟨gb186, _, none⟩) NB184_186.out _).trans (((cell_far (p := ⟨gb186, _, none⟩) NB184_186.out _).trans (hHeld.2.1)))))))), ((cell_far (p := ⟨gb186, _, none⟩) NB184_186.out _).trans (((cell_far (p := ⟨gb186, _, none⟩) NB184_186.out _).trans (((cell_far (p := ⟨gb186, _, none⟩) NB184_186.out _).trans (((cell_far (p := ⟨gb186, _, none⟩) NB184_186.out _).trans (hHeld.2.2.1)))))))), ((cell_far (p := ⟨gb186, _, none⟩) NB185_186.out _).trans (((cell_far (p := ⟨gb186, _, none⟩) NB185_186.out _).trans (((cell_far (p := ⟨gb186, _, none⟩) NB185_186.out _).trans (((cell_far (p := ⟨gb186, _, none⟩) NB185_186.out _).trans (hHeld.2.2.2.1)))))))), ((cell_far (p := ⟨gb186, _, none⟩) NB185_186.out _).trans (((cell_far (p := ⟨gb186, _, none⟩) NB185_186.out _).trans (((cell_far (p := ⟨gb186, _, none⟩) NB185_186.out _).trans (((cell_far (p := ⟨gb186, _, none⟩) NB185_186.out _).trans (hHeld.2.2.2.2.1)))))))), ((cell_far (p := ⟨gb186, _, none⟩) NB185_186.out _).trans (((cell_far (p := ⟨gb186, _, none⟩) NB185_186.out _).trans (((cell_far (p := ⟨gb186, _, none⟩) NB185_186.out _).trans (((cell_far (p := ⟨gb186, _, none⟩) NB185_186.out _).trans (hHeld.2.2.2.2.2))))))))⟩ (fun hHeld => ?_)
       clear hK K
       refine done_ (done_of HT_.out (by kernel_rfl)) ?_
       try go_wp2
       refine bodyPost_ret (results_cell_row rfl _ _ gb186 30 #[.int .i64 t199, .int .i64 t200, .int .i64 t201, .int .i64 t202] (0, 0) _ rfl (kp (p4_3 (kp (p4_2 (kp (p4_1 (kp (p4_0 (kp BK186.out))))))))) Tryd.underlying30 rfl (by kernel_rfl)) rfl ?_
       exact ⟨by first | rfl | (simp [errW_none, errW_some] <;> rfl) | (simp [*, errW_none, errW_some] <;> rfl), bl HB.out⟩

/-! ### drachmref02_turned: function 57 -/
def drachmref02_turned.f (a0_0 : Int) (a0_1 : Int) (a0_2 : Int) (a0_3 : Int) (a0_4 : Int) : Option (Int × Int × Int × Int × Int) := some (a0_0, a0_2, a0_1, wrap64 (-a0_3), wrap64 (-a0_4))
set_option maxHeartbeats 8000000 in
set_option maxRecDepth 100000 in
theorem drachmref02_turned.calls (a0_0 : Int) (a0_1 : Int) (a0_2 : Int) (a0_3 : Int) (a0_4 : Int) (r1 : Int) (r2 : Int) (r3 : Int) (r4 : Int) (r5 : Int) (w : World) (h : drachmref02_turned.f a0_0 a0_1 a0_2 a0_3 a0_4 = some (r1, r2, r3, r4, r5)) :
  Calls Tryd.prog 57 #[.agg #[.int .i64 a0_0, .int .i64 a0_1, .int .i64 a0_2, .int .i64 a0_3, .int .i64 a0_4]] w fun e w' => e = .returned (.agg #[.int .i64 r1, .int .i64 r2, .int .i64 r3, .int .i64 r4, .int .i64 r5]) ∧ Below w.heap.size w w' := by
 have hu60 := Tryd.underlying60
 have HB := Aside0.mk (Below.refl w.heap.size w)
 have H : (some (a0_0, a0_2, a0_1, wrap64 (-a0_3), wrap64 (-a0_4))) = some (r1, r2, r3, r4, r5) := h
 clear h
 simp only [Option.some.injEq, Prod.mk.injEq] at H
 obtain ⟨rfl, rfl, rfl, rfl, rfl⟩ := H
 go_enter Tryd.func57, Tryd.ntmps57
 go_wp2_with (first | ((with_reducible refine gate_dst (N := 1) rfl ?_); refine box_event ?hg (N := 1) ?hd (cs := #[.int .i64 a0_0, .int .i64 a0_1, .int .i64 a0_2, .int .i64 a0_3, .int .i64 a0_4]) (t := 60) ?hr ?_; (case hd => rfl); (case hg => rfl); (case hr => first | (go_simp; done) | (go_simp; rfl)); intro gb203 hg w2 hbox hb; have n0_ := Aside0.mk (below_step (bl HB.out) hb); have n1_ := Aside0.mk (hbox); have n2_ := Aside0.mk ((by rw [hg]; exact (below_size (bl HB.out)) : w.heap.size ≤ gb203)); have n3_ := Aside0.mk ((by rw [hg]; exact (below_size (bl HB.out)) : w.heap.size ≤ gb203)); clear HB; have HB := n0_; have BK203 := n1_; have GW203 := n2_; have GE203 := n3_; clear n0_ n1_ n2_ n3_; clear hb hbox hg) | ((with_reducible refine gate_dst (N := 2) rfl ?_); refine box_event ?hg (N := 2) ?hd (cs := #[.int .i64 0, .int .i64 0, .int .i64 0, .int .i64 0, .int .i64 0]) (t := 60) ?hr ?_; (case hd => rfl); (case hg => rfl); (case hr => first | (go_simp; done) | (go_simp; rfl)); intro gb204 hg w3 hbox hb; have n0_ := Aside0.mk (blk_below (kp BK203.out) hb); have n1_ := Aside0.mk (below_step (bl HB.out) hb); have n2_ := Aside0.mk (hbox); have n3_ := Aside0.mk ((by rw [hg]; exact (below_size (bl HB.out)) : w.heap.size ≤ gb204)); have n4_ := Aside0.mk ((by rw [hg]; exact (below_size (bl HB.out)) : w.heap.size ≤ gb204)); have n5_ := Aside0.mk ((by rw [hg]; exact Nat.ne_of_lt (blk_lt (kp BK203.out)) : gb203 ≠ gb204)); have n6_ := Aside0.mk ((by rw [hg]; exact Nat.ne_of_gt (blk_lt (kp BK203.out)) : gb204 ≠ gb203)); clear BK203; clear HB; have BK203 := n0_; have HB := n1_; have BK204 := n2_; have GW204 := n3_; have GE204 := n4_; have NB203_204 := n5_; have NB204_203 := n6_; clear n0_ n1_ n2_ n3_ n4_ n5_ n6_; clear hb hbox hg; have hnb4 := NB203_204.out; have hnc4 := NB204_203.out; obtain ⟨hcz5_0, hcz5_1, hcz5_2, hcz5_3, hcz5_4⟩ := hc5 BK203.out; obtain ⟨hfz5_0, hfz5_1, hfz5_2, hfz5_3, hfz5_4⟩ := hf5 BK203.out; obtain ⟨hcz6_0, hcz6_1, hcz6_2, hcz6_3, hcz6_4⟩ := hc5 BK204.out; obtain ⟨hfz6_0, hfz6_1, hfz6_2, hfz6_3, hfz6_4⟩ := hf5 BK204.out))
 refine bodyPost_ret (results_cell_row rfl _ _ gb204 60 #[.int .i64 a0_0, .int .i64 a0_2, .int .i64 a0_1, .int .i64 (wrap64 (-a0_3)), .int .i64 (wrap64 (-a0_4))] (0, 0) _ rfl (kp (p5_4 (kp (p5_3 (kp (p5_2 (kp (p5_1 (kp (p5_0 (kp BK204.out))))))))))) Tryd.underlying60 rfl (by kernel_rfl)) rfl ?_
 exact ⟨by first | rfl | (simp [errW_none, errW_some] <;> rfl) | (simp [*, errW_none, errW_some] <;> rfl), bl HB.out⟩

/-! ### drachmref02_Div: function 36 -/
def drachmref02_Div.j0 : Nat → Bool → Int → Int → Int → Int → Int → Int → Option (Int × Int × Int × Int)
 | 0, _, _, _, _, _, _, _ => none
 | k + 1, x16, x206000, x206001, x206002, x207000, x207001, x207002 => if x16 = true then (some (0, 0, 0, 1)) else (if x207000 = 0 then (some (0, 0, 0, 11)) else (if x206000 = 0 then (some (0, 1, 0, 0)) else ((drachmref02_of.f k x206000 x206001).bind fun bt210 => ((drachmref02_of.f k x207000 x207001).bind fun bt215 => ((drachmref02_turned.f bt215.1 bt215.2.1 bt215.2.2.1 bt215.2.2.2.1 bt215.2.2.2.2).bind fun bt220 => ((drachmref02_times.f k bt210.1 bt210.2.1 bt210.2.2.1 bt210.2.2.2.1 bt210.2.2.2.2 bt220.1 bt220.2.1 bt220.2.2.1 bt220.2.2.2.1 bt220.2.2.2.2 (wrap64 (x206002 - x207002))).bind fun bt225 => (some (bt225.1, bt225.2.1, bt225.2.2.1, bt225.2.2.2))))))))
def drachmref02_Div.f (k : Nat) (a0_0 : Int) (a0_1 : Int) (a0_2 : Int) (a1_0 : Int) (a1_1 : Int) (a1_2 : Int) : Option (Int × Int × Int × Int) := (drachmref02_Right.f k a0_0 a0_1 a0_2).bind fun t208 => ((drachmref02_Right.f k a1_0 a1_1 a1_2).bind fun t209 => (if t208 = true then (drachmref02_Div.j0 k (!t209) a0_0 a0_1 a0_2 a1_0 a1_1 a1_2) else (drachmref02_Div.j0 k true a0_0 a0_1 a0_2 a1_0 a1_1 a1_2)))
theorem drachmref02_Div.mono_l : ∀ k, (∀ y0 y1 y2 y3 y4 y5 y6, LeO (drachmref02_Div.j0 k y0 y1 y2 y3 y4 y5 y6) (drachmref02_Div.j0 (k + 1) y0 y1 y2 y3 y4 y5 y6))
 | 0 => fun _ _ _ _ _ _ _ r h => by simp [drachmref02_Div.j0] at h
 | k + 1 => by
  have ih0 := drachmref02_Div.mono_l k
  ·intro y0 y1 y2 y3 y4 y5 y6
   unfold drachmref02_Div.j0
   repeat' first
   | (with_reducible exact ih0 _ _ _ _ _ _ _)
   | (with_reducible exact drachmref02_Right.mono _ _ _ _)
   | (with_reducible exact drachmref02_of.mono _ _ _)
   | (with_reducible exact drachmref02_times.mono _ _ _ _ _ _ _ _ _ _ _ _)
   | (with_reducible exact LeO.refl _)
   | (with_reducible exact LeO.none _)
   | (with_reducible refine LeO.ite ?_ ?_)
   | (with_reducible refine LeO.bind ?_ (fun _ => ?_))
   | exact ih0 _ _ _ _ _ _ _
   | exact drachmref02_Right.mono _ _ _ _
   | exact drachmref02_of.mono _ _ _
   | exact drachmref02_times.mono _ _ _ _ _ _ _ _ _ _ _ _
   | exact LeO.none _
   | refine LeO.ite ?_ ?_
   | refine LeO.bind ?_ (fun _ => ?_)
theorem drachmref02_Div.mono : ∀ a0 a1 a2 a3 a4 a5 k, LeO (drachmref02_Div.f k a0 a1 a2 a3 a4 a5) (drachmref02_Div.f (k + 1) a0 a1 a2 a3 a4 a5) := by
 intro a0 a1 a2 a3 a4 a5 k
 have ih0 := drachmref02_Div.mono_l k
 unfold drachmref02_Div.f
 repeat' first
   | (with_reducible exact ih0 _ _ _ _ _ _ _)
   | (with_reducible exact drachmref02_Right.mono _ _ _ _)
   | (with_reducible exact drachmref02_of.mono _ _ _)
   | (with_reducible exact drachmref02_times.mono _ _ _ _ _ _ _ _ _ _ _ _)
   | (with_reducible exact LeO.refl _)
   | (with_reducible exact LeO.none _)
   | (with_reducible refine LeO.ite ?_ ?_)
   | (with_reducible refine LeO.bind ?_ (fun _ => ?_))
   | exact ih0 _ _ _ _ _ _ _
   | exact drachmref02_Right.mono _ _ _ _
   | exact drachmref02_of.mono _ _ _
   | exact drachmref02_times.mono _ _ _ _ _ _ _ _ _ _ _ _
   | exact LeO.none _
   | refine LeO.ite ?_ ?_
   | refine LeO.bind ?_ (fun _ => ?_)
def drachmref02_Div.T9 : Bool × List (List Nat × List Nat) := (true, [([], []), ([0], [0]), ([], []), ([2], [2]), ([1, 3], [1, 3]), ([], []), ([5], [5]), ([], []), ([7], [7]), ([6, 8, 4], [6, 8]), ([9, 9], [9]), ([], []), ([11], [11]), ([], []), ([13], [13]), ([12, 14], [12, 14]), ([4, 10, 15, 10], [4, 10, 15]), ([16, 16, 0, 1, 2, 3, 4, 5, 6, 7, 8, 9, 10, 11, 12, 13, 14, 15, 16], [16])])
def drachmref02_Div.B9 : List Nat := [0, 1, 0, 4, 15, 0, 32, 0, 128, 511, 1023, 0, 2048, 0, 8192, 30720, 65535, 131071]
theorem drachmref02_Div.tab9 : rtab .any (opsOf Tryd.f36 9) = drachmref02_Div.T9 := by kernel_rfl
theorem drachmref02_Div.bits9 : waitsOk drachmref02_Div.T9.2 drachmref02_Div.B9 = true := by kernel_rfl
set_option maxHeartbeats 8000000 in
set_option maxRecDepth 100000 in
theorem drachmref02_Div.calls (k : Nat) (a0_0 : Int) (a0_1 : Int) (a0_2 : Int) (a1_0 : Int) (a1_1 : Int) (a1_2 : Int) (r1 : Int) (r2 : Int) (r3 : Int) (r4 : Int) (w : World) (h : drachmref02_Div.f k a0_0 a0_1 a0_2 a1_0 a1_1 a1_2 = some (r1, r2, r3, r4)) :
  Calls Tryd.prog 36 #[.agg #[.int .i64 a0_0, .int .i64 a0_1, .int .i64 a0_2], .agg #[.int .i64 a1_0, .int .i64 a1_1, .int .i64 a1_2]] w fun e w' => e = .returned (.agg #[.int .i64 r1, .int .i64 r2, .int .i64 r3, .int .i64 r4]) ∧ Below w.heap.size w w' := by
 have hu24 := Tryd.underlying24
 have hu30 := Tryd.underlying30
 have HB := Aside0.mk (Below.refl w.heap.size w)
 have H : ((drachmref02_Right.f k a0_0 a0_1 a0_2).bind fun t208 => ((drachmref02_Right.f k a1_0 a1_1 a1_2).bind fun t209 => (if t208 = true then (drachmref02_Div.j0 k (!t209) a0_0 a0_1 a0_2 a1_0 a1_1 a1_2) else (drachmref02_Div.j0 k true a0_0 a0_1 a0_2 a1_0 a1_1 a1_2)))) = some (r1, r2, r3, r4) := h
 clear h
 replace H := Option.bind_eq_some_iff.mp H
 obtain ⟨t208, A30, H⟩ := H
 replace H : ((drachmref02_Right.f k a1_0 a1_1 a1_2).bind fun t209 => (if t208 = true then (drachmref02_Div.j0 k (!t209) a0_0 a0_1 a0_2 a1_0 a1_1 a1_2) else (drachmref02_Div.j0 k true a0_0 a0_1 a0_2 a1_0 a1_1 a1_2))) = some (r1, r2, r3, r4) := H
 have A3 := Aside0.mk A30
 clear A30
 replace H := Option.bind_eq_some_iff.mp H
 obtain ⟨t209, A40, H⟩ := H
 replace H : (if t208 = true then (drachmref02_Div.j0 k (!t209) a0_0 a0_1 a0_2 a1_0 a1_1 a1_2) else (drachmref02_Div.j0 k true a0_0 a0_1 a0_2 a1_0 a1_1 a1_2)) = some (r1, r2, r3, r4) := H
 have A4 := Aside0.mk A40
 clear A40
 have HC5 := Aside0.mk H
 clear H
 go_enter Tryd.func36, Tryd.ntmps36
 go_upto_region 3 with (first | ((with_reducible refine gate_dst (N := 2) rfl ?_); refine box_event ?hg (N := 2) ?hd (cs := #[.int .i64 a0_0, .int .i64 a0_1, .int .i64 a0_2]) (t := 24) ?hr ?_; (case hd => rfl); (case hg => rfl); (case hr => first | (go_simp; done) | (go_simp; rfl)); intro gb205 hg w6 hbox hb; have n0_ := Aside0.mk (below_step (bl HB.out) hb); have n1_ := Aside0.mk (hbox); have n2_ := Aside0.mk ((by rw [hg]; exact (below_size (bl HB.out)) : w.heap.size ≤ gb205)); have n3_ := Aside0.mk ((by rw [hg]; exact (below_size (bl HB.out)) : w.heap.size ≤ gb205)); clear HB; have HB := n0_; have BK205 := n1_; have GW205 := n2_; have GE205 := n3_; clear n0_ n1_ n2_ n3_; clear hb hbox hg) | ((with_reducible refine gate_dst (N := 3) rfl ?_); refine box_event ?hg (N := 3) ?hd (cs := #[.int .i64 a1_0, .int .i64 a1_1, .int .i64 a1_2]) (t := 24) ?hr ?_; (case hd => rfl); (case hg => rfl); (case hr => first | (go_simp; done) | (go_simp; rfl)); intro gb206 hg w7 hbox hb; have n0_ := Aside0.mk (blk_below (kp BK205.out) hb); have n1_ := Aside0.mk (below_step (bl HB.out) hb); have n2_ := Aside0.mk (hbox); have n3_ := Aside0.mk ((by rw [hg]; exact (below_size (bl HB.out)) : w.heap.size ≤ gb206)); have n4_ := Aside0.mk ((by rw [hg]; exact (below_size (bl HB.out)) : w.heap.size ≤ gb206)); have n5_ := Aside0.mk ((by rw [hg]; exact Nat.ne_of_lt (blk_lt (kp BK205.out)) : gb205 ≠ gb206)); have n6_ := Aside0.mk ((by rw [hg]; exact Nat.ne_of_gt (blk_lt (kp BK205.out)) : gb206 ≠ gb205)); clear BK205; clear HB; have BK205 := n0_; have HB := n1_; have BK206 := n2_; have GW206 := n3_; have GE206 := n4_; have NB205_206 := n5_; have NB206_205 := n6_; clear n0_ n1_ n2_ n3_ n4_ n5_ n6_; clear hb hbox hg) | ((with_reducible refine gate_dst (N := 4) rfl ?_); refine box_event ?hg (N := 4) ?hd (cs := #[.int .i64 0, .int .i64 0, .int .i64 0, .int .i64 0]) (t := 30) ?hr ?_; (case hd => rfl); (case hg => rfl); (case hr => first | (go_simp; done) | (go_simp; rfl)); intro gb207 hg w8 hbox hb; have n0_ := Aside0.mk (blk_below (kp BK205.out) hb); have n1_ := Aside0.mk (blk_below (kp BK206.out) hb); have n2_ := Aside0.mk (below_step (bl HB.out) hb); have n3_ := Aside0.mk (hbox); have n4_ := Aside0.mk ((by rw [hg]; exact (below_size (bl HB.out)) : w.heap.size ≤ gb207)); have n5_ := Aside0.mk ((by rw [hg]; exact (below_size (bl HB.out)) : w.heap.size ≤ gb207)); have n6_ := Aside0.mk ((by rw [hg]; exact Nat.ne_of_lt (blk_lt (kp BK205.out)) : gb205 ≠ gb207)); have n7_ := Aside0.mk ((by rw [hg]; exact Nat.ne_of_gt (blk_lt (kp BK205.out)) : gb207 ≠ gb205)); have n8_ := Aside0.mk ((by rw [hg]; exact Nat.ne_of_lt (blk_lt (kp BK206.out)) : gb206 ≠ gb207)); have n9_ := Aside0.mk ((by rw [hg]; exact Nat.ne_of_gt (blk_lt (kp BK206.out)) : gb207 ≠ gb206)); clear BK205; clear BK206; clear HB; have BK205 := n0_; have BK206 := n1_; have HB := n2_; have BK207 := n3_; have GW207 := n4_; have GE207 := n5_; have NB205_207 := n6_; have NB207_205 := n7_; have NB206_207 := n8_; have NB207_206 := n9_; clear n0_ n1_ n2_ n3_ n4_ n5_ n6_ n7_ n8_ n9_; clear hb hbox hg; have hnb9 := NB205_206.out; have hnc9 := NB206_205.out; have hnb10 := NB205_207.out; have hnc10 := NB207_205.out; obtain ⟨hcz11_0, hcz11_1, hcz11_2⟩ := hc3 BK205.out; obtain ⟨hfz11_0, hfz11_1, hfz11_2⟩ := hf3 BK205.out) | ((with_reducible refine gate_callee (f := 14) rfl ?_); refine goesL_ (some 8) rfl rfl Tryd.func14 (by kernel_rfl) rfl #[.agg #[.int .i64 a0_0, .int .i64 a0_1, .int .i64 a0_2]] rfl (by (try simp only [List.map_toArray, List.map_cons, List.map_nil]); first | done | rfl | (simp only [List.length_drop, List.length_take]; rfl)) ?_; (with_reducible refine (drachmref02_Right.calls k a0_0 a0_1 a0_2 t208 _ A3.out).mono ?_); rintro e w12 ⟨rfl, hb⟩; refine ⟨_, rfl, ?_⟩; replace BK205 := Aside0.mk (blk_below (kp BK205.out) hb); replace BK206 := Aside0.mk (blk_below (kp BK206.out) hb); replace BK207 := Aside0.mk (blk_below (kp BK207.out) hb); replace HB := Aside0.mk (below_step (bl HB.out) hb); (try clear hb); (try clear hb2); (try clear hk); (try clear hi); have hnb13 := NB206_207.out; have hnc13 := NB207_206.out; obtain ⟨hcz14_0, hcz14_1, hcz14_2⟩ := hc3 BK206.out; obtain ⟨hfz14_0, hfz14_1, hfz14_2⟩ := hf3 BK206.out) | ((with_reducible refine gate_callee (f := 14) rfl ?_); refine goesL_ (some 10) rfl rfl Tryd.func14 (by kernel_rfl) rfl #[.agg #[.int .i64 a1_0, .int .i64 a1_1, .int .i64 a1_2]] rfl (by (try simp only [List.map_toArray, List.map_cons, List.map_nil]); first | done | rfl | (simp only [List.length_drop, List.length_take]; rfl)) ?_; (with_reducible refine (drachmref02_Right.calls k a1_0 a1_1 a1_2 t209 _ A4.out).mono ?_); rintro e w15 ⟨rfl, hb⟩; refine ⟨_, rfl, ?_⟩; replace BK205 := Aside0.mk (blk_below (kp BK205.out) hb); replace BK206 := Aside0.mk (blk_below (kp BK206.out) hb); replace BK207 := Aside0.mk (blk_below (kp BK207.out) hb); replace HB := Aside0.mk (below_step (bl HB.out) hb); (try clear hb); (try clear hb2); (try clear hk); (try clear hi)))
 (try simp only [Act.put, List.setIfInBounds_toArray, List.set_cons_zero, List.set_cons_succ])
 go_cut [16] (fun v16 wc => ∃ (kq : Nat) (x16_4 : Bool), v16 = .bool x16_4 ∧ Aside0 (drachmref02_Div.j0 kq x16_4 a0_0 a0_1 a0_2 a1_0 a1_1 a1_2 = some (r1, r2, r3, r4)) ∧ Aside0 (kq ≤ k) ∧ Aside0 (wc.heap[gb205]? = some (.cells #[.int .i64 a0_0, .int .i64 a0_1, .int .i64 a0_2] 24 (0, 0))) ∧ Aside0 (wc.heap[gb206]? = some (.cells #[.int .i64 a1_0, .int .i64 a1_1, .int .i64 a1_2] 24 (0, 0))) ∧ Aside0 (wc.heap[gb207]? = some (.cells #[.int .i64 0, .int .i64 0, .int .i64 0, .int .i64 0] 30 (0, 0))) ∧ Aside0 (Below w.heap.size w wc))
 case first =>
  have H := HC5.out
  clear HC5
  by_cases c16 : t208 = true
  ·subst c16
   have H1 : (drachmref02_Div.j0 k (!t209) a0_0 a0_1 a0_2 a1_0 a1_1 a1_2) = some (r1, r2, r3, r4) := by rw [if_pos rfl] at H; exact H
   clear H
   have H := H1
   clear H1
   have H' := Aside0.mk H
   clear H
   go_wp2
   go_meet
   case rel => exact ⟨_, (!t209), (by first | rfl | (simp; done) | (simp [*]; done)), H', ⟨by first | omega | exact Nat.le_refl _⟩, ⟨kp BK205.out⟩, ⟨kp BK206.out⟩, ⟨kp BK207.out⟩, ⟨bl HB.out⟩⟩
  ·replace c16 := Bool.eq_false_iff.mpr c16
   subst c16
   have H1 : (drachmref02_Div.j0 k true a0_0 a0_1 a0_2 a1_0 a1_1 a1_2) = some (r1, r2, r3, r4) := by rw [if_neg (show ¬ (false = true) by decide)] at H; exact H
   clear H
   have H := H1
   clear H1
   have H' := Aside0.mk H
   clear H
   go_wp2
   go_meet
   case rel => exact ⟨_, (true), (by first | rfl | (simp; done) | (simp [*]; done)), H', ⟨by first | omega | exact Nat.le_refl _⟩, ⟨kp BK205.out⟩, ⟨kp BK206.out⟩, ⟨kp BK207.out⟩, ⟨bl HB.out⟩⟩
 case rest =>
  clear HC5
  try clear c1
  try clear p2
  try clear c3
  try clear c9
  try clear c10
  try clear c13
  try clear c14
  try clear c16
  try clear hcz11_0
  try clear hcz11_1
  try clear hcz11_2
  try clear hcz14_0
  try clear hcz14_1
  try clear hcz14_2
  try clear hfz11_0
  try clear hfz11_1
  try clear hfz11_2
  try clear hfz14_0
  try clear hfz14_1
  try clear hfz14_2
  obtain ⟨kq, x16_4, rfl, HA, HJ4, BK205, BK206, BK207, HB⟩ := hcut
  cases kq with
  | zero => exact absurd HA.out (by simp [drachmref02_Div.j0])
  | succ kj4 =>
   have H := HA.out
   clear HA
   simp only [drachmref02_Div.j0] at H
   by_cases c17 : x16_4 = true
   ·subst c17
    have H1 : (some (0, 0, 0, 1)) = some (r1, r2, r3, r4) := by rw [if_pos rfl] at H; exact H
    clear H
    have H := H1
    clear H1
    simp only [Option.some.injEq, Prod.mk.injEq] at H
    obtain ⟨rfl, rfl, rfl, rfl⟩ := H
    have hnb18 := NB207_205.out
    have hnc18 := NB205_207.out
    have hnb19 := NB207_206.out
    have hnc19 := NB206_207.out
    obtain ⟨hcz20_0, hcz20_1, hcz20_2, hcz20_3⟩ := hc4 BK207.out
    obtain ⟨hfz20_0, hfz20_1, hfz20_2, hfz20_3⟩ := hf4 BK207.out
    go_wp2
    refine bodyPost_ret (results_cell_row rfl _ _ gb207 30 #[.int .i64 0, .int .i64 0, .int .i64 0, .int .i64 1] (0, 0) _ rfl (kp (p4_3 (kp (p4_2 (kp (p4_1 (kp (p4_0 (kp BK207.out))))))))) Tryd.underlying30 rfl (by kernel_rfl)) rfl ?_
    exact ⟨by first | rfl | (simp [errW_none, errW_some] <;> rfl) | (simp [*, errW_none, errW_some] <;> rfl), bl HB.out⟩
   ·replace c17 := Bool.eq_false_iff.mpr c17
    subst c17
    have H1 : (if a1_0 = 0 then (some (0, 0, 0, 11)) else (if a0_0 = 0 then (some (0, 1, 0, 0)) else ((drachmref02_of.f kj4 a0_0 a0_1).bind fun bt210 => ((drachmref02_of.f kj4 a1_0 a1_1).bind fun bt215 => ((drachmref02_turned.f bt215.1 bt215.2.1 bt215.2.2.1 bt215.2.2.2.1 bt215.2.2.2.2).bind fun bt220 => ((drachmref02_times.f kj4 bt210.1 bt210.2.1 bt210.2.2.1 bt210.2.2.2.1 bt210.2.2.2.2 bt220.1 bt220.2.1 bt220.2.2.1 bt220.2.2.2.1 bt220.2.2.2.2 (wrap64 (a0_2 - a1_2))).bind fun bt225 => (some (bt225.1, bt225.2.1, bt225.2.2.1, bt225.2.2.2)))))))) = some (r1, r2, r3, r4) := by rw [if_neg (show ¬ (false = true) by decide)] at H; exact H
    clear H
    have H := H1
    clear H1
    by_cases c21 : a1_0 = 0
    ·rw [if_pos c21] at H
     have c21b0 : (a1_0 == 0) = true := beq_iff_eq.mpr c21
     have c21b1 : (a1_0 != 0) = false := bne_eq_false_iff_eq.mpr c21
     clear c21
     simp only [Option.some.injEq, Prod.mk.injEq] at H
     obtain ⟨rfl, rfl, rfl, rfl⟩ := H
     have hnb22 := NB206_205.out
     have hnc22 := NB205_206.out
     have hnb23 := NB206_207.out
     have hnc23 := NB207_206.out
     obtain ⟨hcz24_0, hcz24_1, hcz24_2⟩ := hc3 BK206.out
     obtain ⟨hfz24_0, hfz24_1, hfz24_2⟩ := hf3 BK206.out
     have hnb25 := NB207_205.out
     have hnc25 := NB205_207.out
     obtain ⟨hcz26_0, hcz26_1, hcz26_2, hcz26_3⟩ := hc4 BK207.out
     obtain ⟨hfz26_0, hfz26_1, hfz26_2, hfz26_3⟩ := hf4 BK207.out
     go_wp2
     refine bodyPost_ret (results_cell_row rfl _ _ gb207 30 #[.int .i64 0, .int .i64 0, .int .i64 0, .int .i64 11] (0, 0) _ rfl (kp (p4_3 (kp (p4_2 (kp (p4_1 (kp (p4_0 (kp BK207.out))))))))) Tryd.underlying30 rfl (by kernel_rfl)) rfl ?_
     exact ⟨by first | rfl | (simp [errW_none, errW_some] <;> rfl) | (simp [*, errW_none, errW_some] <;> rfl), bl HB.out⟩
    ·rw [if_neg c21] at H
     have c21b0 : (a1_0 == 0) = false := beq_eq_false_iff_ne.mpr c21
     have c21b1 : (a1_0 != 0) = true := bne_iff_ne.mpr c21
     by_cases c27 : a0_0 = 0
     ·rw [if_pos c27] at H
      have c27b0 : (a0_0 == 0) = true := beq_iff_eq.mpr c27
      have c27b1 : (a0_0 != 0) = false := bne_eq_false_iff_eq.mpr c27
      clear c27
      simp only [Option.some.injEq, Prod.mk.injEq] at H
      obtain ⟨rfl, rfl, rfl, rfl⟩ := H
      have hnb28 := NB206_205.out
      have hnc28 := NB205_206.out
      have hnb29 := NB206_207.out
      have hnc29 := NB207_206.out
      obtain ⟨hcz30_0, hcz30_1, hcz30_2⟩ := hc3 BK206.out
      obtain ⟨hfz30_0, hfz30_1, hfz30_2⟩ := hf3 BK206.out
      have hnb31 := NB205_207.out
      have hnc31 := NB207_205.out
      obtain ⟨hcz32_0, hcz32_1, hcz32_2⟩ := hc3 BK205.out
      obtain ⟨hfz32_0, hfz32_1, hfz32_2⟩ := hf3 BK205.out
      obtain ⟨hcz33_0, hcz33_1, hcz33_2, hcz33_3⟩ := hc4 BK207.out
      obtain ⟨hfz33_0, hfz33_1, hfz33_2, hfz33_3⟩ := hf4 BK207.out
      go_wp2
      refine bodyPost_ret (results_cell_row rfl _ _ gb207 30 #[.int .i64 0, .int .i64 1, .int .i64 0, .int .i64 0] (0, 0) _ rfl (kp (p4_3 (kp (p4_2 (kp (p4_1 (kp (p4_0 (kp BK207.out))))))))) Tryd.underlying30 rfl (by kernel_rfl)) rfl ?_
      exact ⟨by first | rfl | (simp [errW_none, errW_some] <;> rfl) | (simp [*, errW_none, errW_some] <;> rfl), bl HB.out⟩
     ·rw [if_neg c27] at H
      have c27b0 : (a0_0 == 0) = false := beq_eq_false_iff_ne.mpr c27
      have c27b1 : (a0_0 != 0) = true := bne_iff_ne.mpr c27
      replace H := Option.bind_eq_some_iff.mp H
      obtain ⟨⟨t210, t211, t212, t213, t214⟩, A340, H⟩ := H
      replace H : ((drachmref02_of.f kj4 a1_0 a1_1).bind fun bt215 => ((drachmref02_turned.f bt215.1 bt215.2.1 bt215.2.2.1 bt215.2.2.2.1 bt215.2.2.2.2).bind fun bt220 => ((drachmref02_times.f kj4 t210 t211 t212 t213 t214 bt220.1 bt220.2.1 bt220.2.2.1 bt220.2.2.2.1 bt220.2.2.2.2 (wrap64 (a0_2 - a1_2))).bind fun bt225 => (some (bt225.1, bt225.2.1, bt225.2.2.1, bt225.2.2.2))))) = some (r1, r2, r3, r4) := H
      have A34 := Aside0.mk A340
      clear A340
      replace H := Option.bind_eq_some_iff.mp H
      obtain ⟨⟨t215, t216, t217, t218, t219⟩, A350, H⟩ := H
      replace H : ((drachmref02_turned.f t215 t216 t217 t218 t219).bind fun bt220 => ((drachmref02_times.f kj4 t210 t211 t212 t213 t214 bt220.1 bt220.2.1 bt220.2.2.1 bt220.2.2.2.1 bt220.2.2.2.2 (wrap64 (a0_2 - a1_2))).bind fun bt225 => (some (bt225.1, bt225.2.1, bt225.2.2.1, bt225.2.2.2)))) = some (r1, r2, r3, r4) := H
      have A35 := Aside0.mk A350
      clear A350
      replace H := Option.bind_eq_some_iff.mp H
      obtain ⟨⟨t220, t221, t222, t223, t224⟩, A360, H⟩ := H
      replace H : ((drachmref02_times.f kj4 t210 t211 t212 t213 t214 t220 t221 t222 t223 t224 (wrap64 (a0_2 - a1_2))).bind fun bt225 => (some (bt225.1, bt225.2.1, bt225.2.2.1, bt225.2.2.2))) = some (r1, r2, r3, r4) := H
      have A36 := Aside0.mk A360
      clear A360
      replace H := Option.bind_eq_some_iff.mp H
      obtain ⟨⟨t225, t226, t227, t228⟩, A370, H⟩ := H
      replace H : (some (t225, t226, t227, t228)) = some (r1, r2, r3, r4) := H
      have A37 := Aside0.mk A370
      clear A370
      simp only [Option.some.injEq, Prod.mk.injEq] at H
      obtain ⟨rfl, rfl, rfl, rfl⟩ := H
      have hnb38 := NB206_205.out
      have hnc38 := NB205_206.out
      have hnb39 := NB206_207.out
      have hnc39 := NB207_206.out
      obtain ⟨hcz40_0, hcz40_1, hcz40_2⟩ := hc3 BK206.out
      obtain ⟨hfz40_0, hfz40_1, hfz40_2⟩ := hf3 BK206.out
      have hnb41 := NB205_207.out
      have hnc41 := NB207_205.out
      obtain ⟨hcz42_0, hcz42_1, hcz42_2⟩ := hc3 BK205.out
      obtain ⟨hfz42_0, hfz42_1, hfz42_2⟩ := hf3 BK205.out
      try go_wp2
      (try (rw [drewN_self wc]; generalize hq_ : World.drewN wc _ = wc; replace BK205 := Aside0.mk (kq hq_ BK205.out); replace BK206 := Aside0.mk (kq hq_ BK206.out); replace BK207 := Aside0.mk (kq hq_ BK207.out); replace HB := Aside0.mk (bq hq_ HB.out); clear hq_))
      replace BK205 := Aside0.mk (blk_drew BK205.out)
      replace BK206 := Aside0.mk (blk_drew BK206.out)
      replace BK207 := Aside0.mk (blk_drew BK207.out)
      replace HB := Aside0.mk (below_drew1 HB.out)
      refine start_ (n := 18) (S := fun w' => w'.cell? ⟨gb205, 0, none⟩ = some (.int .i64 a0_0) ∧ w'.cell? ⟨gb205, 1, none⟩ = some (.int .i64 a0_1) ∧ w'.cell? ⟨gb205, 2, none⟩ = some (.int .i64 a0_2) ∧ w'.cell? ⟨gb206, 0, none⟩ = some (.int .i64 a1_0) ∧ w'.cell? ⟨gb206, 1, none⟩ = some (.int .i64 a1_1) ∧ w'.cell? ⟨gb206, 2, none⟩ = some (.int .i64 a1_2)) (ds := []) #[false, false, false, false, false, false, false, false, false, false, false, false, false, false, false, false, false, false] (by kernel_rfl) rfl rfl ⟨(blk_cell BK205.out 0).trans rfl, (blk_cell BK205.out 1).trans rfl, (blk_cell BK205.out 2).trans rfl, (blk_cell BK206.out 0).trans rfl, (blk_cell BK206.out 1).trans rfl, (blk_cell BK206.out 2).trans rfl⟩ (fun hHeld => ?_); refine with_tabW drachmref02_Div.tab9 drachmref02_Div.bits9 (fun HT_ HW_ => ?_)
      generalize wc.drew = w43 at BK205 BK206 BK207 HB hHeld ⊢
      refine pure_ (i := 0) (N := some 27) (v := ?_) (a' := ?_) #[true, false, false, false, false, false, false, false, false, false, false, false, false, false, false, false, false, false] rfl rfl (any_of HT_.out (by kernel_rfl)) (fun _ _ _ h => h) (Or.inl ⟨by rfl, ?_⟩) ?_ ?_
      rotate_left
      ·intro w'
       go_simp
       with_reducible rfl
      rotate_left
      ·simp only [Act.put, List.setIfInBounds_toArray, List.set_cons_zero, List.set_cons_succ, i64_w, i32_w]
       rfl
      refine pure_ (i := 2) (N := some 29) (v := ?_) (a' := ?_) #[true, false, true, false, false, false, false, false, false, false, false, false, false, false, false, false, false, false] rfl rfl (any_of HT_.out (by kernel_rfl)) (fun _ _ _ h => h) (Or.inl ⟨by rfl, ?_⟩) ?_ ?_
      rotate_left
      ·intro w'
       go_simp
       with_reducible rfl
      rotate_left
      ·simp only [Act.put, List.setIfInBounds_toArray, List.set_cons_zero, List.set_cons_succ, i64_w, i32_w]
       rfl
      refine pure_ (i := 5) (N := some 32) (v := ?_) (a' := ?_) #[true, false, true, false, false, true, false, false, false, false, false, false, false, false, false, false, false, false] rfl rfl (any_of HT_.out (by kernel_rfl)) (fun _ _ _ h => h) (Or.inl ⟨by rfl, ?_⟩) ?_ ?_
      rotate_left
      ·intro w'
       go_simp
       with_reducible rfl
      rotate_left
      ·simp only [Act.put, List.setIfInBounds_toArray, List.set_cons_zero, List.set_cons_succ, i64_w, i32_w]
       rfl
      refine pure_ (i := 7) (N := some 34) (v := ?_) (a' := ?_) #[true, false, true, false, false, true, false, true, false, false, false, false, false, false, false, false, false, false] rfl rfl (any_of HT_.out (by kernel_rfl)) (fun _ _ _ h => h) (Or.inl ⟨by rfl, ?_⟩) ?_ ?_
      rotate_left
      ·intro w'
       go_simp
       with_reducible rfl
      rotate_left
      ·simp only [Act.put, List.setIfInBounds_toArray, List.set_cons_zero, List.set_cons_succ, i64_w, i32_w]
       rfl
      refine pure_ (i := 11) (N := some 38) (v := ?_) (a' := ?_) #[true, false, true, false, false, true, false, true, false, false, false, true, false, false, false, false, false, false] rfl rfl (any_of HT_.out (by kernel_rfl)) (fun _ _ _ h => h) (Or.inl ⟨by rfl, ?_⟩) ?_ ?_
      rotate_left
      ·intro w'
       go_simp
       with_reducible rfl
      rotate_left
      ·simp only [Act.put, List.setIfInBounds_toArray, List.set_cons_zero, List.set_cons_succ, i64_w, i32_w]
       rfl
      refine pure_ (i := 13) (N := some 40) (v := ?_) (a' := ?_) #[true, false, true, false, false, true, false, true, false, false, false, true, false, true, false, false, false, false] rfl rfl (any_of HT_.out (by kernel_rfl)) (fun _ _ _ h => h) (Or.inl ⟨by rfl, ?_⟩) ?_ ?_
      rotate_left
      ·intro w'
       go_simp
       with_reducible rfl
      rotate_left
      ·simp only [Act.put, List.setIfInBounds_toArray, List.set_cons_zero, List.set_cons_succ, i64_w, i32_w]
       rfl
      refine take_ (i := 1) (N := some 28) (v := ?_) (a' := ?_) #[true, true, true, false, false, true, false, true, false, false, false, true, false, true, false, false, false, false] rfl rfl (take_ofW HT_.out HW_.out (by kernel_rfl)) (fun _ _ _ h => h) (Or.inl ⟨by rfl, ?_⟩) hHeld ?_ ?_
      rotate_left
      ·rintro w' ⟨s0, s1, s2, s3, s4, s5⟩
       go_simp
       with_reducible rfl
      rotate_left
      ·simp only [Act.put, List.setIfInBounds_toArray, List.set_cons_zero, List.set_cons_succ, i64_w, i32_w]
       rfl
      refine take_ (i := 3) (N := some 30) (v := ?_) (a' := ?_) #[true, true, true, true, false, true, false, true, false, false, false, true, false, true, false, false, false, false] rfl rfl (take_ofW HT_.out HW_.out (by kernel_rfl)) (fun _ _ _ h => h) (Or.inl ⟨by rfl, ?_⟩) hHeld ?_ ?_
      rotate_left
      ·rintro w' ⟨s0, s1, s2, s3, s4, s5⟩
       go_simp
       with_reducible rfl
      rotate_left
      ·simp only [Act.put, List.setIfInBounds_toArray, List.set_cons_zero, List.set_cons_succ, i64_w, i32_w]
       rfl
      refine take_ (i := 6) (N := some 33) (v := ?_) (a' := ?_) #[true, true, true, true, false, true, true, true, false, false, false, true, false, true, false, false, false, false] rfl rfl (take_ofW HT_.out HW_.out (by kernel_rfl)) (fun _ _ _ h => h) (Or.inl ⟨by rfl, ?_⟩) hHeld ?_ ?_
      rotate_left
      ·rintro w' ⟨s0, s1, s2, s3, s4, s5⟩
       go_simp
       with_reducible rfl
      rotate_left
      ·simp only [Act.put, List.setIfInBounds_toArray, List.set_cons_zero, List.set_cons_succ, i64_w, i32_w]
       rfl
      refine take_ (i := 8) (N := some 35) (v := ?_) (a' := ?_) #[true, true, true, true, false, true, true, true, true, false, false, true, false, true, false, false, false, false] rfl rfl (take_ofW HT_.out HW_.out (by kernel_rfl)) (fun _ _ _ h => h) (Or.inl ⟨by rfl, ?_⟩) hHeld ?_ ?_
      rotate_left
      ·rintro w' ⟨s0, s1, s2, s3, s4, s5⟩
       go_simp
       with_reducible rfl
      rotate_left
      ·simp only [Act.put, List.setIfInBounds_toArray, List.set_cons_zero, List.set_cons_succ, i64_w, i32_w]
       rfl
      refine take_ (i := 12) (N := some 39) (v := ?_) (a' := ?_) #[true, true, true, true, false, true, true, true, true, false, false, true, true, true, false, false, false, false] rfl rfl (take_ofW HT_.out HW_.out (by kernel_rfl)) (fun _ _ _ h => h) (Or.inl ⟨by rfl, ?_⟩) hHeld ?_ ?_
      rotate_left
      ·rintro w' ⟨s0, s1, s2, s3, s4, s5⟩
       go_simp
       with_reducible rfl
      rotate_left
      ·simp only [Act.put, List.setIfInBounds_toArray, List.set_cons_zero, List.set_cons_succ, i64_w, i32_w]
       rfl
      refine take_ (i := 14) (N := some 41) (v := ?_) (a' := ?_) #[true, true, true, true, false, true, true, true, true, false, false, true, true, true, true, false, false, false] rfl rfl (take_ofW HT_.out HW_.out (by kernel_rfl)) (fun _ _ _ h => h) (Or.inl ⟨by rfl, ?_⟩) hHeld ?_ ?_
      rotate_left
      ·rintro w' ⟨s0, s1, s2, s3, s4, s5⟩
       go_simp
       with_reducible rfl
      rotate_left
      ·simp only [Act.put, List.setIfInBounds_toArray, List.set_cons_zero, List.set_cons_succ, i64_w, i32_w]
       rfl
      refine pure_ (i := 15) (N := some 42) (v := ?_) (a' := ?_) #[true, true, true, true, false, true, true, true, true, false, false, true, true, true, true, true, false, false] rfl rfl (any_of HT_.out (by kernel_rfl)) (fun _ _ _ h => h) (Or.inl ⟨by rfl, ?_⟩) ?_ ?_
      rotate_left
      ·intro w'
       go_simp
       with_reducible rfl
      rotate_left
      ·simp only [Act.put, List.setIfInBounds_toArray, List.set_cons_zero, List.set_cons_succ, i64_w, i32_w]
       rfl
      refine one_ (i := 4) (N := some 31) #[true, true, true, true, true, true, true, true, true, false, false, true, true, true, true, true, false, false] rfl rfl (one_of HT_.out (by kernel_rfl)) (by decide) (fun K hK => ?_)
      refine goes_ Tryd.func30 (by kernel_rfl) rfl #[.int .i64 a0_0, .int .i64 a0_1] (by rfl) rfl rfl (by (try simp only [List.map_toArray, List.map_cons, List.map_nil]); first | done | rfl | (simp only [List.length_drop, List.length_take]; rfl)) ?_
      with_reducible refine (drachmref02_of.calls kj4 a0_0 a0_1 t210 t211 t212 t213 t214 _ A34.out).mono ?_
      rintro e w44 ⟨rfl, hb⟩
      refine ⟨_, rfl, ?_⟩
      replace BK205 := Aside0.mk (blk_below (kp BK205.out) hb)
      replace BK206 := Aside0.mk (blk_below (kp BK206.out) hb)
      replace BK207 := Aside0.mk (blk_below (kp BK207.out) hb)
      replace HB := Aside0.mk (below_step (bl HB.out) hb)
      (try clear hb)
      (try clear hb2)
      (try clear hk)
      (try clear hi)
      refine hK.out _ _ ⟨(blk_cell BK205.out 0).trans rfl, (blk_cell BK205.out 1).trans rfl, (blk_cell BK205.out 2).trans rfl, (blk_cell BK206.out 0).trans rfl, (blk_cell BK206.out 1).trans rfl, (blk_cell BK206.out 2).trans rfl⟩ (fun hHeld => ?_)
      clear hK K
      refine norm_ (a' := ?_) ?_ ?_
      rotate_left
      ·show Act.put _ (some 31) _ = _
       simp only [Act.put, List.setIfInBounds_toArray, List.set_cons_zero, List.set_cons_succ, i64_w, i32_w]
       rfl
      refine one_ (i := 9) (N := some 36) #[true, true, true, true, true, true, true, true, true, true, false, true, true, true, true, true, false, false] rfl rfl (one_of HT_.out (by kernel_rfl)) (by decide) (fun K hK => ?_)
      refine goes_ Tryd.func30 (by kernel_rfl) rfl #[.int .i64 a1_0, .int .i64 a1_1] (by rfl) rfl rfl (by (try simp only [List.map_toArray, List.map_cons, List.map_nil]); first | done | rfl | (simp only [List.length_drop, List.length_take]; rfl)) ?_
      with_reducible refine (drachmref02_of.calls kj4 a1_0 a1_1 t215 t216 t217 t218 t219 _ A35.out).mono ?_
      rintro e w45 ⟨rfl, hb⟩
      refine ⟨_, rfl, ?_⟩
      replace BK205 := Aside0.mk (blk_below (kp BK205.out) hb)
      replace BK206 := Aside0.mk (blk_below (kp BK206.out) hb)
      replace BK207 := Aside0.mk (blk_below (kp BK207.out) hb)
      replace HB := Aside0.mk (below_step (bl HB.out) hb)
      (try clear hb)
      (try clear hb2)
      (try clear hk)
      (try clear hi)
      refine hK.out _ _ ⟨(blk_cell BK205.out 0).trans rfl, (blk_cell BK205.out 1).trans rfl, (blk_cell BK205.out 2).trans rfl, (blk_cell BK206.out 0).trans rfl, (blk_cell BK206.out 1).trans rfl, (blk_cell BK206.out 2).trans rfl⟩ (fun hHeld => ?_)
      clear hK K
      refine norm_ (a' := ?_) ?_ ?_
      rotate_left
      ·show Act.put _ (some 36) _ = _
       simp only [Act.put, List.setIfInBounds_toArray, List.set_cons_zero, List.set_cons_succ, i64_w, i32_w]
       rfl
      refine one_ (i := 10) (N := some 37) #[true, true, true, true, true, true, true, true, true, true, true, true, true, true, true, true, false, false] rfl rfl (one_of HT_.out (by kernel_rfl)) (by decide) (fun K hK => ?_)
      refine goes_ Tryd.func57 (by kernel_rfl) rfl #[.agg #[.int .i64 t215, .int .i64 t216, .int .i64 t217, .int .i64 t218, .int .i64 t219]] (by rfl) rfl rfl (by (try simp only [List.map_toArray, List.map_cons, List.map_nil]); first | done | rfl | (simp only [List.length_drop, List.length_take]; rfl)) ?_
      with_reducible refine (drachmref02_turned.calls t215 t216 t217 t218 t219 t220 t221 t222 t223 t224 _ A36.out).mono ?_
      rintro e w46 ⟨rfl, hb⟩
      refine ⟨_, rfl, ?_⟩
      replace BK205 := Aside0.mk (blk_below (kp BK205.out) hb)
      replace BK206 := Aside0.mk (blk_below (kp BK206.out) hb)
      replace BK207 := Aside0.mk (blk_below (kp BK207.out) hb)
      replace HB := Aside0.mk (below_step (bl HB.out) hb)
      (try clear hb)
      (try clear hb2)
      (try clear hk)
      (try clear hi)
      refine hK.out _ _ ⟨(blk_cell BK205.out 0).trans rfl, (blk_cell BK205.out 1).trans rfl, (blk_cell BK205.out 2).trans rfl, (blk_cell BK206.out 0).trans rfl, (blk_cell BK206.out 1).trans rfl, (blk_cell BK206.out 2).trans rfl⟩ (fun hHeld => ?_)
      clear hK K
      refine norm_ (a' := ?_) ?_ ?_
      rotate_left
      ·show Act.put _ (some 37) _ = _
       simp only [Act.put, List.setIfInBounds_toArray, List.set_cons_zero, List.set_cons_succ, i64_w, i32_w]
       rfl
      refine one_ (i := 16) (N := some 43) #[true, true, true, true, true, true, true, true, true, true, true, true, true, true, true, true, true, false] rfl rfl (one_of HT_.out (by kernel_rfl)) (by decide) (fun K hK => ?_)
      refine goes_ Tryd.func56 (by kernel_rfl) rfl #[.agg #[.int .i64 t210, .int .i64 t211, .int .i64 t212, .int .i64 t213, .int .i64 t214], .agg #[.int .i64 t220, .int .i64 t221, .int .i64 t222, .int .i64 t223, .int .i64 t224], .int .i64 (wrap64 (a0_2 - a1_2))] (by rfl) rfl rfl (by (try simp only [List.map_toArray, List.map_cons, List.map_nil]); first | done | rfl | (simp only [List.length_drop, List.length_take]; rfl)) ?_
      with_reducible refine (drachmref02_times.calls kj4 t210 t211 t212 t213 t214 t220 t221 t222 t223 t224 (wrap64 (a0_2 - a1_2)) t225 t226 t227 t228 _ A37.out).mono ?_
      rintro e w47 ⟨rfl, hb⟩
      refine ⟨_, rfl, ?_⟩
      replace BK205 := Aside0.mk (blk_below (kp BK205.out) hb)
      replace BK206 := Aside0.mk (blk_below (kp BK206.out) hb)
      replace BK207 := Aside0.mk (blk_below (kp BK207.out) hb)
      replace HB := Aside0.mk (below_step (bl HB.out) hb)
      (try clear hb)
      (try clear hb2)
      (try clear hk)
      (try clear hi)
      refine hK.out _ _ ⟨(blk_cell BK205.out 0).trans rfl, (blk_cell BK205.out 1).trans rfl, (blk_cell BK205.out 2).trans rfl, (blk_cell BK206.out 0).trans rfl, (blk_cell BK206.out 1).trans rfl, (blk_cell BK206.out 2).trans rfl⟩ (fun hHeld => ?_)
      clear hK K
      refine norm_ (a' := ?_) ?_ ?_
      rotate_left
      ·show Act.put _ (some 43) _ = _
       simp only [Act.put, List.setIfInBounds_toArray, List.set_cons_zero, List.set_cons_succ, i64_w, i32_w]
       rfl
      refine one_ (i := 17) (N := none) #[true, true, true, true, true, true, true, true, true, true, true, true, true, true, true, true, true, true] rfl rfl (one_of HT_.out (by kernel_rfl)) (by decide) (fun K hK => ?_)
      have hs48 : w47.cell? ⟨gb207, 0, none⟩ = some (.int .i64 0) := (blk_cell BK207.out 0).trans rfl
      have hfs48 := blk_frozen BK207.out 0
      have hns48_0 := NB205_207.out
      have hns48_1 := NB206_207.out
      have hms48_0 := NB207_205.out
      have hms48_1 := NB207_206.out
      have hs49 : w47.cell? ⟨gb207, 1, none⟩ = some (.int .i64 0) := (blk_cell BK207.out 1).trans rfl
      have hfs49 := blk_frozen BK207.out 1
      have hns49_0 := NB205_207.out
      have hns49_1 := NB206_207.out
      have hms49_0 := NB207_205.out
      have hms49_1 := NB207_206.out
      have hs50 : w47.cell? ⟨gb207, 2, none⟩ = some (.int .i64 0) := (blk_cell BK207.out 2).trans rfl
      have hfs50 := blk_frozen BK207.out 2
      have hns50_0 := NB205_207.out
      have hns50_1 := NB206_207.out
      have hms50_0 := NB207_205.out
      have hms50_1 := NB207_206.out
      have hs51 : w47.cell? ⟨gb207, 3, none⟩ = some (.int .i64 0) := (blk_cell BK207.out 3).trans rfl
      have hfs51 := blk_frozen BK207.out 3
      have hns51_0 := NB205_207.out
      have hns51_1 := NB206_207.out
      have hms51_0 := NB207_205.out
      have hms51_1 := NB207_206.out
      refine skip_ (w1 := ?_) (by rfl) rfl ?_ ?_
      rotate_left
      ·go_simp
       rfl
      refine hK.out _ _ ⟨((cell_far (p := ⟨gb207, _, none⟩) NB205_207.out _).trans (((cell_far (p := ⟨gb207, _, none⟩) NB205_207.out _).trans (((cell_far (p := ⟨gb207, _, none⟩) NB205_207.out _).trans (((cell_far (p := ⟨gb207, _, none⟩) NB205_207.out _).trans (hHeld.1)))))))), ((cell_far (p := ⟨gb207, _, none⟩) NB205_207.out _).trans (((cell_far (p := ⟨gb207, _, none⟩) NB205_207.out _).trans (((cell_far (p := ⟨gb207, _, none⟩) NB205_207.out _).trans (((cell_far (p := ⟨gb207, _, none⟩) NB205_207.out _).trans (hHeld.2.1)))))))), ((cell_far (p := ⟨gb207, _, none⟩) NB205_207.out _).trans (((cell_far (p := ⟨gb207, _, none⟩) NB205_207.out _).trans (((cell_far (p := ⟨gb207, _, none⟩) NB205_207.out _).trans (((cell_far (p := ⟨gb207, _, none⟩) NB205_207.out _).trans (hHeld.2.2.1)))))))), ((cell_far (p := ⟨gb207, _, none⟩) NB206_207.out _).trans (((cell_far (p := ⟨gb207, _, none⟩) NB206_207.out _).trans (((cell_far (p := ⟨gb207, _, none⟩) NB206_207.out _).trans (((cell_far (p := ⟨gb207, _, none⟩) NB206_207.out _).trans (hHeld.2.2.2.1)))))))), ((cell_far (p := ⟨gb207, _, none⟩) NB206_207.out _).trans (((cell_far (p := ⟨gb207, _, none⟩) NB206_207.out _).trans (((cell_far (p := ⟨gb207, _, none⟩) NB206_207.out _).trans (((cell_far (p := ⟨gb207, _, none⟩) NB206_207.out _).trans (hHeld.2.2.2.2.1)))))))), ((cell_far (p := ⟨gb207, _, none⟩) NB206_207.out _).trans (((cell_far (p := ⟨gb207, _, none⟩) NB206_207.out _).trans (((cell_far (p := ⟨gb207, _, none⟩) NB206_207.out _).trans (((cell_far (p := ⟨gb207, _, none⟩) NB206_207.out _).trans (hHeld.2.2.2.2.2))))))))⟩ (fun hHeld => ?_)
      clear hK K
      refine done_ (done_of HT_.out (by kernel_rfl)) ?_
      try go_wp2
      refine bodyPost_ret (results_cell_row rfl _ _ gb207 30 #[.int .i64 t225, .int .i64 t226, .int .i64 t227, .int .i64 t228] (0, 0) _ rfl (kp (p4_3 (kp (p4_2 (kp (p4_1 (kp (p4_0 (kp BK207.out))))))))) Tryd.underlying30 rfl (by kernel_rfl)) rfl ?_
      exact ⟨by first | rfl | (simp [errW_none, errW_some] <;> rfl) | (simp [*, errW_none, errW_some] <;> rfl), bl HB.out⟩

end Go.Proofs.YtnndaackjgnhhaaDoor.PB
