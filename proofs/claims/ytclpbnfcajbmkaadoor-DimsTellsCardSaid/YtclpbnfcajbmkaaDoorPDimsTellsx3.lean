/- Printed by a program of this session (wip/tools/prt.py) out of the translation: plain functions, and that the calls come to just them. No conditions beyond those that stand in each theorem. -/
import Derived.Test.YtclpbnfcajbmkaaDoorGlob
import Derived.Test.YtclpbnfcajbmkaaDoorPDimsTellsx0
import Derived.Test.YtclpbnfcajbmkaaDoorPDimsTellsx1
import Derived.Test.YtclpbnfcajbmkaaDoorPDimsTellsx2
namespace Go.Proofs.YtclpbnfcajbmkaaDoor.PDimsTells
open Go.Proofs.YtclpbnfcajbmkaaDoor.Sq Go.RowKit Go.Proofs.YtclpbnfcajbmkaaDoorW.PrintWords Go.Proofs.YtclpbnfcajbmkaaDoorW.PrintLast Go.Proofs.YtclpbnfcajbmkaaDoorW.PrintMore Go.Proofs.YtclpbnfcajbmkaaDoor.PB Go.Proofs.YtclpbnfcajbmkaaDoor.PQ
attribute [local go_sem] max2_int min2_int max_two min_two max_three min_three max_four min_four   -- for this text's walks alone
set_option linter.unusedVariables false
set_option linter.unusedSimpArgs false

attribute [local go_sem high] eqA23
/-! ### drachmlaw03_DimsTells: function 6 -/
def drachmlaw03_DimsTells.j0 : Nat → Int → ByteArray → Bool → Int → Int → Int → Int → Int → Int → Int → Int → Int → Int → Int → Int → Int → Int → Option (Bool)
 | 0, _, _, _, _, _, _, _, _, _, _, _, _, _, _, _, _, _ => none
 | k + 1, x1, x2, x7, x162000, x162001, x162002, x162003, x162004, x162005, x162006, x162007, x162008, x162009, x162010, x162011, x162012, x162013 => (dims_Read.f x2).bind fun bt163 => ((drachmref03_Read.f x2).bind fun bt172 => (if x7 = true then (if (bt163.1 == bt172.1 && (bt163.2.1 == bt172.2.1 && (bt163.2.2.1 == bt172.2.2.1 && (bt163.2.2.2.1 == bt172.2.2.2.1 && (bt163.2.2.2.2.1 == bt172.2.2.2.2.1 && (bt163.2.2.2.2.2.1 == bt172.2.2.2.2.2.1 && (bt163.2.2.2.2.2.2.1 == bt172.2.2.2.2.2.2.1))))))) = true then (if (bt163.2.2.2.2.2.2.2 == bt172.2.2.2.2.2.2.2) = true then ((drachmlaw03_tells.f k x162000 x162001 x162002 x162003 x162004 x162005 x162006 x162007 x162008 x162009 x162010 x162011 x162012 x162013 x1).bind fun t181 => (if t181 = true then ((drachmlaw03_near.f x162000 x162001 x162002 x162003 x162004 x162005 x162006 99).bind fun bt182 => ((drachmlaw03_near.f x162007 x162008 x162009 x162010 x162011 x162012 x162013 99).bind fun bt189 => ((drachmlaw03_tells.f k bt182.1 bt182.2.1 bt182.2.2.1 bt182.2.2.2.1 bt182.2.2.2.2.1 bt182.2.2.2.2.2.1 bt182.2.2.2.2.2.2 bt189.1 bt189.2.1 bt189.2.2.1 bt189.2.2.2.1 bt189.2.2.2.2.1 bt189.2.2.2.2.2.1 bt189.2.2.2.2.2.2 (Int.tmod x1 9)).bind fun t196 => (if t196 = true then ((drachmlaw03_near.f x162000 x162001 x162002 x162003 x162004 x162005 x162006 50).bind fun bt197 => ((drachmlaw03_near.f x162007 x162008 x162009 x162010 x162011 x162012 x162013 49).bind fun bt204 => ((drachmlaw03_tells.f k bt197.1 bt197.2.1 bt197.2.2.1 bt197.2.2.2.1 bt197.2.2.2.2.1 bt197.2.2.2.2.2.1 bt197.2.2.2.2.2.2 bt204.1 bt204.2.1 bt204.2.2.1 bt204.2.2.2.1 bt204.2.2.2.2.1 bt204.2.2.2.2.2.1 bt204.2.2.2.2.2.2 (Int.tmod x1 3)).bind fun t211 => (some t211)))) else (none))))) else (none))) else (none)) else (none)) else (none)))
def drachmlaw03_DimsTells.f (k : Nat) (a0_0 : Int) (a0_1 : Int) (a0_2 : Int) (a0_3 : Int) (a0_4 : Int) (a0_5 : Int) (a0_6 : Int) (a0_7 : Int) (a0_8 : Int) (a0_9 : Int) (a0_10 : Int) (a0_11 : Int) (a0_12 : Int) (a0_13 : Int) (a1 : Int) (a2 : ByteArray) : Option (Bool) := (drachmlaw03_awake.f).bind fun t162 => (if (a2.size : Int) > 40 then (if 0 ≤ 40 then (if 40 ≤ (a2.size : Int) then (drachmlaw03_DimsTells.j0 k a1 (a2.extract 0 40) t162 a0_0 a0_1 a0_2 a0_3 a0_4 a0_5 a0_6 a0_7 a0_8 a0_9 a0_10 a0_11 a0_12 a0_13) else (none)) else (none)) else (drachmlaw03_DimsTells.j0 k a1 a2 t162 a0_0 a0_1 a0_2 a0_3 a0_4 a0_5 a0_6 a0_7 a0_8 a0_9 a0_10 a0_11 a0_12 a0_13))
theorem drachmlaw03_DimsTells.mono_l : ∀ k, (∀ y0 y1 y2 y3 y4 y5 y6 y7 y8 y9 y10 y11 y12 y13 y14 y15 y16, LeO (drachmlaw03_DimsTells.j0 k y0 y1 y2 y3 y4 y5 y6 y7 y8 y9 y10 y11 y12 y13 y14 y15 y16) (drachmlaw03_DimsTells.j0 (k + 1) y0 y1 y2 y3 y4 y5 y6 y7 y8 y9 y10 y11 y12 y13 y14 y15 y16))
 | 0 => fun _ _ _ _ _ _ _ _ _ _ _ _ _ _ _ _ _ r h => by simp [drachmlaw03_DimsTells.j0] at h
 | k + 1 => by
  have ih0 := drachmlaw03_DimsTells.mono_l k
  ·intro y0 y1 y2 y3 y4 y5 y6 y7 y8 y9 y10 y11 y12 y13 y14 y15 y16
   unfold drachmlaw03_DimsTells.j0
   repeat' first
   | (with_reducible exact ih0 _ _ _ _ _ _ _ _ _ _ _ _ _ _ _ _ _)
   | (with_reducible exact drachmlaw03_tells.mono _ _ _ _ _ _ _ _ _ _ _ _ _ _ _ _)
   | (with_reducible exact LeO.refl _)
   | (with_reducible exact LeO.none _)
   | (with_reducible refine LeO.ite ?_ ?_)
   | (with_reducible refine LeO.bind ?_ (fun _ => ?_))
   | exact ih0 _ _ _ _ _ _ _ _ _ _ _ _ _ _ _ _ _
   | exact drachmlaw03_tells.mono _ _ _ _ _ _ _ _ _ _ _ _ _ _ _ _
   | exact LeO.none _
   | refine LeO.ite ?_ ?_
   | refine LeO.bind ?_ (fun _ => ?_)
theorem drachmlaw03_DimsTells.mono : ∀ a0 a1 a2 a3 a4 a5 a6 a7 a8 a9 a10 a11 a12 a13 a14 a15 k, LeO (drachmlaw03_DimsTells.f k a0 a1 a2 a3 a4 a5 a6 a7 a8 a9 a10 a11 a12 a13 a14 a15) (drachmlaw03_DimsTells.f (k + 1) a0 a1 a2 a3 a4 a5 a6 a7 a8 a9 a10 a11 a12 a13 a14 a15) := by
 intro a0 a1 a2 a3 a4 a5 a6 a7 a8 a9 a10 a11 a12 a13 a14 a15 k
 have ih0 := drachmlaw03_DimsTells.mono_l k
 unfold drachmlaw03_DimsTells.f
 repeat' first
   | (with_reducible exact ih0 _ _ _ _ _ _ _ _ _ _ _ _ _ _ _ _ _)
   | (with_reducible exact drachmlaw03_tells.mono _ _ _ _ _ _ _ _ _ _ _ _ _ _ _ _)
   | (with_reducible exact LeO.refl _)
   | (with_reducible exact LeO.none _)
   | (with_reducible refine LeO.ite ?_ ?_)
   | (with_reducible refine LeO.bind ?_ (fun _ => ?_))
   | exact ih0 _ _ _ _ _ _ _ _ _ _ _ _ _ _ _ _ _
   | exact drachmlaw03_tells.mono _ _ _ _ _ _ _ _ _ _ _ _ _ _ _ _
   | exact LeO.none _
   | refine LeO.ite ?_ ?_
   | refine LeO.bind ?_ (fun _ => ?_)
def drachmlaw03_DimsTells.T6 : Bool × List (List Nat × List Nat) := (true, [([], []), ([0], [0]), ([1], [1]), ([1], [1]), ([3, 1], [1, 3]), ([2, 4, 1], [1, 2, 4]), ([1, 5], [1, 5]), ([6, 1], [6]), ([7], [7]), ([7], [7]), ([9, 7], [7, 9]), ([8, 10, 7], [7, 8, 10]), ([7, 11], [7, 11]), ([12, 7], [12]), ([13], [13]), ([14, 13], [13, 14]), ([13], [13]), ([16, 13], [13, 16]), ([13], [13]), ([15, 17, 18, 13, 13], [13, 15, 17, 18]), ([13, 19], [13, 19]), ([20, 19], [20]), ([21], [21]), ([22, 21], [21, 22]), ([23, 21, 21], [21, 23]), ([21], [21]), ([25, 21], [21, 25]), ([26, 24, 21], [21, 26]), ([21], [21]), ([28, 21], [21, 28]), ([24, 27, 29, 27, 21], [21, 24, 27, 29]), ([21, 30], [21, 30]), ([31, 30], [31]), ([32], [32]), ([33, 32], [32, 33]), ([34, 32, 32], [32, 34]), ([32], [32]), ([36, 32], [32, 36]), ([37, 35, 32], [32, 37]), ([32], [32]), ([39, 32], [32, 39]), ([35, 38, 40, 38, 32], [32, 35, 38, 40]), ([32, 41], [32, 41]), ([42, 41, 0, 1, 2, 3, 4, 5, 6, 7, 8, 9, 10, 11, 12, 13, 14, 15, 16, 17, 18, 19, 20, 21, 22, 23, 24, 25, 26, 27, 28, 29, 30, 31, 32, 33, 34, 35, 36, 37, 38, 39, 40, 41, 42], [42])])
def drachmlaw03_DimsTells.B6 : List Nat := [0, 1, 3, 3, 11, 31, 63, 127, 255, 255, 767, 2047, 4095, 8191, 16383, 32767, 16383, 81919, 16383, 524287, 1048575, 2097151, 4194303, 8388607, 16777215, 4194303, 37748735, 134217727, 4194303, 272629759, 1073741823, 2147483647, 4294967295, 8589934591, 17179869183, 34359738367, 8589934591, 77309411327, 274877906943, 8589934591, 558345748479, 2199023255551, 4398046511103, 8796093022207]
theorem drachmlaw03_DimsTells.tab6 : rtab .any (opsOf Tryd.f6 6) = drachmlaw03_DimsTells.T6 := by kernel_rfl
theorem drachmlaw03_DimsTells.bits6 : waitsOk drachmlaw03_DimsTells.T6.2 drachmlaw03_DimsTells.B6 = true := by kernel_rfl
set_option maxHeartbeats 8000000 in
set_option maxRecDepth 100000 in
theorem drachmlaw03_DimsTells.calls (k : Nat) (a0_0 : Int) (a0_1 : Int) (a0_2 : Int) (a0_3 : Int) (a0_4 : Int) (a0_5 : Int) (a0_6 : Int) (a0_7 : Int) (a0_8 : Int) (a0_9 : Int) (a0_10 : Int) (a0_11 : Int) (a0_12 : Int) (a0_13 : Int) (a1 : Int) (a2 : ByteArray) (r : Bool) (w : World) (hG : Glob [1, 2, 3] w) (h : drachmlaw03_DimsTells.f k a0_0 a0_1 a0_2 a0_3 a0_4 a0_5 a0_6 a0_7 a0_8 a0_9 a0_10 a0_11 a0_12 a0_13 a1 a2 = some r) :
  Calls Tryd.prog 6 #[.agg #[.int .i64 a0_0, .int .i64 a0_1, .int .i64 a0_2, .int .i64 a0_3, .int .i64 a0_4, .int .i64 a0_5, .int .i64 a0_6, .int .i64 a0_7, .int .i64 a0_8, .int .i64 a0_9, .int .i64 a0_10, .int .i64 a0_11, .int .i64 a0_12, .int .i64 a0_13], .int .i64 a1, .string a2] w fun e w' => e = .returned (.bool r) ∧ Below w.heap.size w w' := by
 have hu35 := Tryd.underlying35
 have hu23 := Tryd.underlying23
 have hu40 := Tryd.underlying40
 have HB := Aside0.mk (Below.refl w.heap.size w)
 have H : ((drachmlaw03_awake.f).bind fun t162 => (if (a2.size : Int) > 40 then (if 0 ≤ 40 then (if 40 ≤ (a2.size : Int) then (drachmlaw03_DimsTells.j0 k a1 (a2.extract 0 40) t162 a0_0 a0_1 a0_2 a0_3 a0_4 a0_5 a0_6 a0_7 a0_8 a0_9 a0_10 a0_11 a0_12 a0_13) else (none)) else (none)) else (drachmlaw03_DimsTells.j0 k a1 a2 t162 a0_0 a0_1 a0_2 a0_3 a0_4 a0_5 a0_6 a0_7 a0_8 a0_9 a0_10 a0_11 a0_12 a0_13))) = some r := h
 clear h
 replace H := Option.bind_eq_some_iff.mp H
 obtain ⟨t162, A40, H⟩ := H
 replace H : (if (a2.size : Int) > 40 then (if 0 ≤ 40 then (if 40 ≤ (a2.size : Int) then (drachmlaw03_DimsTells.j0 k a1 (a2.extract 0 40) t162 a0_0 a0_1 a0_2 a0_3 a0_4 a0_5 a0_6 a0_7 a0_8 a0_9 a0_10 a0_11 a0_12 a0_13) else (none)) else (none)) else (drachmlaw03_DimsTells.j0 k a1 a2 t162 a0_0 a0_1 a0_2 a0_3 a0_4 a0_5 a0_6 a0_7 a0_8 a0_9 a0_10 a0_11 a0_12 a0_13)) = some r := H
 have A4 := Aside0.mk A40
 clear A40
 have HC5 := Aside0.mk H
 clear H
 go_enter Tryd.func6, Tryd.ntmps6
 go_upto_if 14 with (first | ((with_reducible refine gate_dst (N := 3) rfl ?_); refine box_event ?hg (N := 3) ?hd (cs := #[.int .i64 a0_0, .int .i64 a0_1, .int .i64 a0_2, .int .i64 a0_3, .int .i64 a0_4, .int .i64 a0_5, .int .i64 a0_6, .int .i64 a0_7, .int .i64 a0_8, .int .i64 a0_9, .int .i64 a0_10, .int .i64 a0_11, .int .i64 a0_12, .int .i64 a0_13]) (t := 35) ?hr ?_; (case hd => rfl); (case hg => rfl); (case hr => first | (go_simp; done) | (go_simp; rfl)); intro gb161 hg w6 hbox hb; have n0_ := Aside0.mk (below_step (bl HB.out) hb); have n1_ := Aside0.mk (hbox); have n2_ := Aside0.mk ((by rw [hg]; exact (below_size (bl HB.out)) : w.heap.size ≤ gb161)); have n3_ := Aside0.mk ((by rw [hg]; exact (below_size (bl HB.out)) : w.heap.size ≤ gb161)); clear HB; have HB := n0_; have BK161 := n1_; have GW161 := n2_; have GE161 := n3_; clear n0_ n1_ n2_ n3_; clear hb hbox hg) | ((with_reducible refine gate_callee (f := 9) rfl ?_); refine goesL_ (some 11) rfl rfl Tryd.func9 (by kernel_rfl) rfl #[] rfl (by (try simp only [List.map_toArray, List.map_cons, List.map_nil]); first | done | rfl | (simp only [List.length_drop, List.length_take]; rfl)) ?_; (with_reducible refine (drachmlaw03_awake.calls  t162 _ (Glob.use hG (by decide) (bl HB.out)) A4.out).mono ?_); rintro e w7 ⟨rfl, hb⟩; refine ⟨_, rfl, ?_⟩; replace BK161 := Aside0.mk (blk_below (kp BK161.out) hb); replace HB := Aside0.mk (below_step (bl HB.out) hb); (try clear hb); (try clear hb2); (try clear hk); (try clear hi)))
 (try simp only [Act.put, List.setIfInBounds_toArray, List.set_cons_zero, List.set_cons_succ])
 go_cut [2] (fun v2 wc => ∃ (kq : Nat) (x2_4 : ByteArray), v2 = .string x2_4 ∧ Aside0 (drachmlaw03_DimsTells.j0 kq a1 x2_4 t162 a0_0 a0_1 a0_2 a0_3 a0_4 a0_5 a0_6 a0_7 a0_8 a0_9 a0_10 a0_11 a0_12 a0_13 = some r) ∧ Aside0 (kq ≤ k) ∧ Aside0 (wc.heap[gb161]? = some (.cells #[.int .i64 a0_0, .int .i64 a0_1, .int .i64 a0_2, .int .i64 a0_3, .int .i64 a0_4, .int .i64 a0_5, .int .i64 a0_6, .int .i64 a0_7, .int .i64 a0_8, .int .i64 a0_9, .int .i64 a0_10, .int .i64 a0_11, .int .i64 a0_12, .int .i64 a0_13] 35 (0, 0))) ∧ Aside0 (Below w.heap.size w wc))
 case first =>
  have H := HC5.out
  clear HC5
  by_cases c8 : (a2.size : Int) > 40
  ·rw [if_pos c8] at H
   have c8b0 : decide (40 < (a2.size : Int)) = true := decide_eq_true c8
   have c8b1 : decide (40 < a2.size) = true := decide_eq_true (by omega)
   clear c8
   (first | rw [c8b0] | (simp only [i64_w, i32_w]; rw [c8b0]) | skip)
   by_cases c9 : 0 ≤ 40
   ·rw [if_pos c9] at H
    have c9b0 := eq_true c9
    have c9b1 : decide (0 ≤ 40) = true := decide_eq_true c9
    clear c9
    by_cases c10 : 40 ≤ (a2.size : Int)
    ·rw [if_pos c10] at H
     have c10b0 := eq_true c10
     have c10b1 : decide (40 ≤ (a2.size : Int)) = true := decide_eq_true c10
     clear c10
     have H' := Aside0.mk H
     clear H
     go_wp2
     go_meet
     case rel => exact ⟨_, (a2.extract 0 40), (by first | rfl | (simp; done) | (simp [*]; done)), H', ⟨by first | omega | exact Nat.le_refl _⟩, ⟨kp BK161.out⟩, ⟨bl HB.out⟩⟩
    ·rw [if_neg c10] at H
     exact absurd H (by simp)
   ·rw [if_neg c9] at H
    exact absurd H (by simp)
  ·rw [if_neg c8] at H
   have c8b0 : decide (40 < (a2.size : Int)) = false := decide_eq_false c8
   have c8b1 : decide (40 < a2.size) = false := decide_eq_false (by omega)
   clear c8
   (first | rw [c8b0] | (simp only [i64_w, i32_w]; rw [c8b0]) | skip)
   have H' := Aside0.mk H
   clear H
   go_wp2
   go_meet
   case rel => exact ⟨_, (a2), (by first | rfl | (simp; done) | (simp [*]; done)), H', ⟨by first | omega | exact Nat.le_refl _⟩, ⟨kp BK161.out⟩, ⟨bl HB.out⟩⟩
 case rest =>
  clear HC5
  try clear c1
  try clear p2
  try clear c6
  try clear c8
  try clear c8b0
  try clear c8b1
  try clear c9
  try clear c9b0
  try clear c9b1
  try clear c10
  try clear c10b0
  try clear c10b1
  obtain ⟨kq, x2_4, rfl, HA, HJ4, BK161, HB⟩ := hcut
  cases kq with
  | zero => exact absurd HA.out (by simp [drachmlaw03_DimsTells.j0])
  | succ kj4 =>
   have H := HA.out
   clear HA
   simp only [drachmlaw03_DimsTells.j0] at H
   replace H := Option.bind_eq_some_iff.mp H
   obtain ⟨⟨t163, t164, t165, t166, t167, t168, t169, t170⟩, A110, H⟩ := H
   replace H : ((drachmref03_Read.f x2_4).bind fun bt172 => (if t162 = true then (if (t163 == bt172.1 && (t164 == bt172.2.1 && (t165 == bt172.2.2.1 && (t166 == bt172.2.2.2.1 && (t167 == bt172.2.2.2.2.1 && (t168 == bt172.2.2.2.2.2.1 && (t169 == bt172.2.2.2.2.2.2.1))))))) = true then (if (t170 == bt172.2.2.2.2.2.2.2) = true then ((drachmlaw03_tells.f kj4 a0_0 a0_1 a0_2 a0_3 a0_4 a0_5 a0_6 a0_7 a0_8 a0_9 a0_10 a0_11 a0_12 a0_13 a1).bind fun t181 => (if t181 = true then ((drachmlaw03_near.f a0_0 a0_1 a0_2 a0_3 a0_4 a0_5 a0_6 99).bind fun bt182 => ((drachmlaw03_near.f a0_7 a0_8 a0_9 a0_10 a0_11 a0_12 a0_13 99).bind fun bt189 => ((drachmlaw03_tells.f kj4 bt182.1 bt182.2.1 bt182.2.2.1 bt182.2.2.2.1 bt182.2.2.2.2.1 bt182.2.2.2.2.2.1 bt182.2.2.2.2.2.2 bt189.1 bt189.2.1 bt189.2.2.1 bt189.2.2.2.1 bt189.2.2.2.2.1 bt189.2.2.2.2.2.1 bt189.2.2.2.2.2.2 (Int.tmod a1 9)).bind fun t196 => (if t196 = true then ((drachmlaw03_near.f a0_0 a0_1 a0_2 a0_3 a0_4 a0_5 a0_6 50).bind fun bt197 => ((drachmlaw03_near.f a0_7 a0_8 a0_9 a0_10 a0_11 a0_12 a0_13 49).bind fun bt204 => ((drachmlaw03_tells.f kj4 bt197.1 bt197.2.1 bt197.2.2.1 bt197.2.2.2.1 bt197.2.2.2.2.1 bt197.2.2.2.2.2.1 bt197.2.2.2.2.2.2 bt204.1 bt204.2.1 bt204.2.2.1 bt204.2.2.2.1 bt204.2.2.2.2.1 bt204.2.2.2.2.2.1 bt204.2.2.2.2.2.2 (Int.tmod a1 3)).bind fun t211 => (some t211)))) else (none))))) else (none))) else (none)) else (none)) else (none))) = some r := H
   have A11 := Aside0.mk A110
   clear A110
   replace H := Option.bind_eq_some_iff.mp H
   obtain ⟨⟨t172, t173, t174, t175, t176, t177, t178, t179⟩, A120, H⟩ := H
   replace H : (if t162 = true then (if (t163 == t172 && (t164 == t173 && (t165 == t174 && (t166 == t175 && (t167 == t176 && (t168 == t177 && (t169 == t178))))))) = true then (if (t170 == t179) = true then ((drachmlaw03_tells.f kj4 a0_0 a0_1 a0_2 a0_3 a0_4 a0_5 a0_6 a0_7 a0_8 a0_9 a0_10 a0_11 a0_12 a0_13 a1).bind fun t181 => (if t181 = true then ((drachmlaw03_near.f a0_0 a0_1 a0_2 a0_3 a0_4 a0_5 a0_6 99).bind fun bt182 => ((drachmlaw03_near.f a0_7 a0_8 a0_9 a0_10 a0_11 a0_12 a0_13 99).bind fun bt189 => ((drachmlaw03_tells.f kj4 bt182.1 bt182.2.1 bt182.2.2.1 bt182.2.2.2.1 bt182.2.2.2.2.1 bt182.2.2.2.2.2.1 bt182.2.2.2.2.2.2 bt189.1 bt189.2.1 bt189.2.2.1 bt189.2.2.2.1 bt189.2.2.2.2.1 bt189.2.2.2.2.2.1 bt189.2.2.2.2.2.2 (Int.tmod a1 9)).bind fun t196 => (if t196 = true then ((drachmlaw03_near.f a0_0 a0_1 a0_2 a0_3 a0_4 a0_5 a0_6 50).bind fun bt197 => ((drachmlaw03_near.f a0_7 a0_8 a0_9 a0_10 a0_11 a0_12 a0_13 49).bind fun bt204 => ((drachmlaw03_tells.f kj4 bt197.1 bt197.2.1 bt197.2.2.1 bt197.2.2.2.1 bt197.2.2.2.2.1 bt197.2.2.2.2.2.1 bt197.2.2.2.2.2.2 bt204.1 bt204.2.1 bt204.2.2.1 bt204.2.2.2.1 bt204.2.2.2.2.1 bt204.2.2.2.2.2.1 bt204.2.2.2.2.2.2 (Int.tmod a1 3)).bind fun t211 => (some t211)))) else (none))))) else (none))) else (none)) else (none)) else (none)) = some r := H
   have A12 := Aside0.mk A120
   clear A120
   by_cases c13 : t162 = true
   ·subst c13
    have H1 : (if (t163 == t172 && (t164 == t173 && (t165 == t174 && (t166 == t175 && (t167 == t176 && (t168 == t177 && (t169 == t178))))))) = true then (if (t170 == t179) = true then ((drachmlaw03_tells.f kj4 a0_0 a0_1 a0_2 a0_3 a0_4 a0_5 a0_6 a0_7 a0_8 a0_9 a0_10 a0_11 a0_12 a0_13 a1).bind fun t181 => (if t181 = true then ((drachmlaw03_near.f a0_0 a0_1 a0_2 a0_3 a0_4 a0_5 a0_6 99).bind fun bt182 => ((drachmlaw03_near.f a0_7 a0_8 a0_9 a0_10 a0_11 a0_12 a0_13 99).bind fun bt189 => ((drachmlaw03_tells.f kj4 bt182.1 bt182.2.1 bt182.2.2.1 bt182.2.2.2.1 bt182.2.2.2.2.1 bt182.2.2.2.2.2.1 bt182.2.2.2.2.2.2 bt189.1 bt189.2.1 bt189.2.2.1 bt189.2.2.2.1 bt189.2.2.2.2.1 bt189.2.2.2.2.2.1 bt189.2.2.2.2.2.2 (Int.tmod a1 9)).bind fun t196 => (if t196 = true then ((drachmlaw03_near.f a0_0 a0_1 a0_2 a0_3 a0_4 a0_5 a0_6 50).bind fun bt197 => ((drachmlaw03_near.f a0_7 a0_8 a0_9 a0_10 a0_11 a0_12 a0_13 49).bind fun bt204 => ((drachmlaw03_tells.f kj4 bt197.1 bt197.2.1 bt197.2.2.1 bt197.2.2.2.1 bt197.2.2.2.2.1 bt197.2.2.2.2.2.1 bt197.2.2.2.2.2.2 bt204.1 bt204.2.1 bt204.2.2.1 bt204.2.2.2.1 bt204.2.2.2.2.1 bt204.2.2.2.2.2.1 bt204.2.2.2.2.2.2 (Int.tmod a1 3)).bind fun t211 => (some t211)))) else (none))))) else (none))) else (none)) else (none)) = some r := by rw [if_pos rfl] at H; exact H
    clear H
    have H := H1
    clear H1
    by_cases c14 : (t163 == t172 && (t164 == t173 && (t165 == t174 && (t166 == t175 && (t167 == t176 && (t168 == t177 && (t169 == t178))))))) = true
    ·rw [if_pos c14] at H
     have c14b0 : (t163 == t172 && (t164 == t173 && (t165 == t174 && (t166 == t175 && (t167 == t176 && (t168 == t177 && (t169 == t178))))))) = true := c14
     (try (have c14b1 : decide (t163 = t172 && (t164 == t173 && (t165 == t174 && (t166 == t175 && (t167 == t176 && (t168 == t177 && (t169 == t178))))))) = true := by simpa using c14))
     (try (have c14b2 : (t163 == t172 && (t164 == t173 && (t165 == t174 && (t166 == t175 && (t167 == t176 && (t168 == t177 && (t169 == t178))))))) = true := by simpa using c14))
     clear c14
     by_cases c15 : (t170 == t179) = true
     ·rw [if_pos c15] at H
      have c15b0 : (t170 == t179) = true := c15
      (try (have c15b1 : decide (t170 = t179) = true := by simpa using c15))
      (try (have c15b2 : (t170 == t179) = true := by simpa using c15))
      clear c15
      replace H := Option.bind_eq_some_iff.mp H
      obtain ⟨t181, A160, H⟩ := H
      replace H : (if t181 = true then ((drachmlaw03_near.f a0_0 a0_1 a0_2 a0_3 a0_4 a0_5 a0_6 99).bind fun bt182 => ((drachmlaw03_near.f a0_7 a0_8 a0_9 a0_10 a0_11 a0_12 a0_13 99).bind fun bt189 => ((drachmlaw03_tells.f kj4 bt182.1 bt182.2.1 bt182.2.2.1 bt182.2.2.2.1 bt182.2.2.2.2.1 bt182.2.2.2.2.2.1 bt182.2.2.2.2.2.2 bt189.1 bt189.2.1 bt189.2.2.1 bt189.2.2.2.1 bt189.2.2.2.2.1 bt189.2.2.2.2.2.1 bt189.2.2.2.2.2.2 (Int.tmod a1 9)).bind fun t196 => (if t196 = true then ((drachmlaw03_near.f a0_0 a0_1 a0_2 a0_3 a0_4 a0_5 a0_6 50).bind fun bt197 => ((drachmlaw03_near.f a0_7 a0_8 a0_9 a0_10 a0_11 a0_12 a0_13 49).bind fun bt204 => ((drachmlaw03_tells.f kj4 bt197.1 bt197.2.1 bt197.2.2.1 bt197.2.2.2.1 bt197.2.2.2.2.1 bt197.2.2.2.2.2.1 bt197.2.2.2.2.2.2 bt204.1 bt204.2.1 bt204.2.2.1 bt204.2.2.2.1 bt204.2.2.2.2.1 bt204.2.2.2.2.2.1 bt204.2.2.2.2.2.2 (Int.tmod a1 3)).bind fun t211 => (some t211)))) else (none))))) else (none)) = some r := H
      have A16 := Aside0.mk A160
      clear A160
      by_cases c17 : t181 = true
      ·subst c17
       have H1 : ((drachmlaw03_near.f a0_0 a0_1 a0_2 a0_3 a0_4 a0_5 a0_6 99).bind fun bt182 => ((drachmlaw03_near.f a0_7 a0_8 a0_9 a0_10 a0_11 a0_12 a0_13 99).bind fun bt189 => ((drachmlaw03_tells.f kj4 bt182.1 bt182.2.1 bt182.2.2.1 bt182.2.2.2.1 bt182.2.2.2.2.1 bt182.2.2.2.2.2.1 bt182.2.2.2.2.2.2 bt189.1 bt189.2.1 bt189.2.2.1 bt189.2.2.2.1 bt189.2.2.2.2.1 bt189.2.2.2.2.2.1 bt189.2.2.2.2.2.2 (Int.tmod a1 9)).bind fun t196 => (if t196 = true then ((drachmlaw03_near.f a0_0 a0_1 a0_2 a0_3 a0_4 a0_5 a0_6 50).bind fun bt197 => ((drachmlaw03_near.f a0_7 a0_8 a0_9 a0_10 a0_11 a0_12 a0_13 49).bind fun bt204 => ((drachmlaw03_tells.f kj4 bt197.1 bt197.2.1 bt197.2.2.1 bt197.2.2.2.1 bt197.2.2.2.2.1 bt197.2.2.2.2.2.1 bt197.2.2.2.2.2.2 bt204.1 bt204.2.1 bt204.2.2.1 bt204.2.2.2.1 bt204.2.2.2.2.1 bt204.2.2.2.2.2.1 bt204.2.2.2.2.2.2 (Int.tmod a1 3)).bind fun t211 => (some t211)))) else (none))))) = some r := by rw [if_pos rfl] at H; exact H
       clear H
       have H := H1
       clear H1
       replace H := Option.bind_eq_some_iff.mp H
       obtain ⟨⟨t182, t183, t184, t185, t186, t187, t188⟩, A180, H⟩ := H
       replace H : ((drachmlaw03_near.f a0_7 a0_8 a0_9 a0_10 a0_11 a0_12 a0_13 99).bind fun bt189 => ((drachmlaw03_tells.f kj4 t182 t183 t184 t185 t186 t187 t188 bt189.1 bt189.2.1 bt189.2.2.1 bt189.2.2.2.1 bt189.2.2.2.2.1 bt189.2.2.2.2.2.1 bt189.2.2.2.2.2.2 (Int.tmod a1 9)).bind fun t196 => (if t196 = true then ((drachmlaw03_near.f a0_0 a0_1 a0_2 a0_3 a0_4 a0_5 a0_6 50).bind fun bt197 => ((drachmlaw03_near.f a0_7 a0_8 a0_9 a0_10 a0_11 a0_12 a0_13 49).bind fun bt204 => ((drachmlaw03_tells.f kj4 bt197.1 bt197.2.1 bt197.2.2.1 bt197.2.2.2.1 bt197.2.2.2.2.1 bt197.2.2.2.2.2.1 bt197.2.2.2.2.2.2 bt204.1 bt204.2.1 bt204.2.2.1 bt204.2.2.2.1 bt204.2.2.2.2.1 bt204.2.2.2.2.2.1 bt204.2.2.2.2.2.2 (Int.tmod a1 3)).bind fun t211 => (some t211)))) else (none)))) = some r := H
       have A18 := Aside0.mk A180
       clear A180
       replace H := Option.bind_eq_some_iff.mp H
       obtain ⟨⟨t189, t190, t191, t192, t193, t194, t195⟩, A190, H⟩ := H
       replace H : ((drachmlaw03_tells.f kj4 t182 t183 t184 t185 t186 t187 t188 t189 t190 t191 t192 t193 t194 t195 (Int.tmod a1 9)).bind fun t196 => (if t196 = true then ((drachmlaw03_near.f a0_0 a0_1 a0_2 a0_3 a0_4 a0_5 a0_6 50).bind fun bt197 => ((drachmlaw03_near.f a0_7 a0_8 a0_9 a0_10 a0_11 a0_12 a0_13 49).bind fun bt204 => ((drachmlaw03_tells.f kj4 bt197.1 bt197.2.1 bt197.2.2.1 bt197.2.2.2.1 bt197.2.2.2.2.1 bt197.2.2.2.2.2.1 bt197.2.2.2.2.2.2 bt204.1 bt204.2.1 bt204.2.2.1 bt204.2.2.2.1 bt204.2.2.2.2.1 bt204.2.2.2.2.2.1 bt204.2.2.2.2.2.2 (Int.tmod a1 3)).bind fun t211 => (some t211)))) else (none))) = some r := H
       have A19 := Aside0.mk A190
       clear A190
       replace H := Option.bind_eq_some_iff.mp H
       obtain ⟨t196, A200, H⟩ := H
       replace H : (if t196 = true then ((drachmlaw03_near.f a0_0 a0_1 a0_2 a0_3 a0_4 a0_5 a0_6 50).bind fun bt197 => ((drachmlaw03_near.f a0_7 a0_8 a0_9 a0_10 a0_11 a0_12 a0_13 49).bind fun bt204 => ((drachmlaw03_tells.f kj4 bt197.1 bt197.2.1 bt197.2.2.1 bt197.2.2.2.1 bt197.2.2.2.2.1 bt197.2.2.2.2.2.1 bt197.2.2.2.2.2.2 bt204.1 bt204.2.1 bt204.2.2.1 bt204.2.2.2.1 bt204.2.2.2.2.1 bt204.2.2.2.2.2.1 bt204.2.2.2.2.2.2 (Int.tmod a1 3)).bind fun t211 => (some t211)))) else (none)) = some r := H
       have A20 := Aside0.mk A200
       clear A200
       by_cases c21 : t196 = true
       ·subst c21
        have H1 : ((drachmlaw03_near.f a0_0 a0_1 a0_2 a0_3 a0_4 a0_5 a0_6 50).bind fun bt197 => ((drachmlaw03_near.f a0_7 a0_8 a0_9 a0_10 a0_11 a0_12 a0_13 49).bind fun bt204 => ((drachmlaw03_tells.f kj4 bt197.1 bt197.2.1 bt197.2.2.1 bt197.2.2.2.1 bt197.2.2.2.2.1 bt197.2.2.2.2.2.1 bt197.2.2.2.2.2.2 bt204.1 bt204.2.1 bt204.2.2.1 bt204.2.2.2.1 bt204.2.2.2.2.1 bt204.2.2.2.2.2.1 bt204.2.2.2.2.2.2 (Int.tmod a1 3)).bind fun t211 => (some t211)))) = some r := by rw [if_pos rfl] at H; exact H
        clear H
        have H := H1
        clear H1
        replace H := Option.bind_eq_some_iff.mp H
        obtain ⟨⟨t197, t198, t199, t200, t201, t202, t203⟩, A220, H⟩ := H
        replace H : ((drachmlaw03_near.f a0_7 a0_8 a0_9 a0_10 a0_11 a0_12 a0_13 49).bind fun bt204 => ((drachmlaw03_tells.f kj4 t197 t198 t199 t200 t201 t202 t203 bt204.1 bt204.2.1 bt204.2.2.1 bt204.2.2.2.1 bt204.2.2.2.2.1 bt204.2.2.2.2.2.1 bt204.2.2.2.2.2.2 (Int.tmod a1 3)).bind fun t211 => (some t211))) = some r := H
        have A22 := Aside0.mk A220
        clear A220
        replace H := Option.bind_eq_some_iff.mp H
        obtain ⟨⟨t204, t205, t206, t207, t208, t209, t210⟩, A230, H⟩ := H
        replace H : ((drachmlaw03_tells.f kj4 t197 t198 t199 t200 t201 t202 t203 t204 t205 t206 t207 t208 t209 t210 (Int.tmod a1 3)).bind fun t211 => (some t211)) = some r := H
        have A23 := Aside0.mk A230
        clear A230
        replace H := Option.bind_eq_some_iff.mp H
        obtain ⟨t211, A240, H⟩ := H
        replace H : (some t211) = some r := H
        have A24 := Aside0.mk A240
        clear A240
        obtain rfl := Option.some.inj H
        try go_wp2_with (first | ((with_reducible refine gate_callee (f := 11) rfl ?_); refine goesL_ (some 19) rfl rfl Tryd.func11 (by kernel_rfl) rfl #[.string x2_4] rfl (by (try simp only [List.map_toArray, List.map_cons, List.map_nil]); first | done | rfl | (simp only [List.length_drop, List.length_take]; rfl)) ?_; (with_reducible refine (dims_Read.calls x2_4 t163 t164 t165 t166 t167 t168 t169 t170 _ (Glob.use hG (by decide) (bl HB.out)) A11.out).mono ?_); rintro e w25 ⟨rfl, hb⟩; refine ⟨_, rfl, ?_⟩; replace BK161 := Aside0.mk (blk_below (kp BK161.out) hb); replace HB := Aside0.mk (below_step (bl HB.out) hb); (try clear hb); (try clear hb2); (try clear hk); (try clear hi)) | ((with_reducible refine gate_dst (N := 8) rfl ?_); refine box_event ?hg (N := 8) ?hd (cs := #[.int .i64 0, .int .i64 0, .int .i64 0, .int .i64 0, .int .i64 0, .int .i64 0, .int .i64 0]) (t := 23) ?hr ?_; (case hd => rfl); (case hg => rfl); (case hr => first | (go_simp; done) | (go_simp; rfl)); intro gb171 hg w26 hbox hb; have n0_ := Aside0.mk (blk_below (kp BK161.out) hb); have n1_ := Aside0.mk (below_step (bl HB.out) hb); have n2_ := Aside0.mk (hbox); have n3_ := Aside0.mk ((by rw [hg]; exact (below_size (bl HB.out)) : w.heap.size ≤ gb171)); have n4_ := Aside0.mk ((by rw [hg]; exact (below_size (bl HB.out)) : w.heap.size ≤ gb171)); have n5_ := Aside0.mk ((by rw [hg]; exact Nat.ne_of_lt (blk_lt (kp BK161.out)) : gb161 ≠ gb171)); have n6_ := Aside0.mk ((by rw [hg]; exact Nat.ne_of_gt (blk_lt (kp BK161.out)) : gb171 ≠ gb161)); clear BK161; clear HB; have BK161 := n0_; have HB := n1_; have BK171 := n2_; have GW171 := n3_; have GE171 := n4_; have NB161_171 := n5_; have NB171_161 := n6_; clear n0_ n1_ n2_ n3_ n4_ n5_ n6_; clear hb hbox hg; have hnb27 := NB171_161.out; have hnc27 := NB161_171.out; have hcz28_0 : w26.cell? ⟨gb171, 0, none⟩ = some (.int .i64 0) := (blk_cell BK171.out 0).trans rfl; have hcz28_1 : w26.cell? ⟨gb171, 1, none⟩ = some (.int .i64 0) := (blk_cell BK171.out 1).trans rfl; have hcz28_2 : w26.cell? ⟨gb171, 2, none⟩ = some (.int .i64 0) := (blk_cell BK171.out 2).trans rfl; have hcz28_3 : w26.cell? ⟨gb171, 3, none⟩ = some (.int .i64 0) := (blk_cell BK171.out 3).trans rfl; have hcz28_4 : w26.cell? ⟨gb171, 4, none⟩ = some (.int .i64 0) := (blk_cell BK171.out 4).trans rfl; have hcz28_5 : w26.cell? ⟨gb171, 5, none⟩ = some (.int .i64 0) := (blk_cell BK171.out 5).trans rfl; have hcz28_6 : w26.cell? ⟨gb171, 6, none⟩ = some (.int .i64 0) := (blk_cell BK171.out 6).trans rfl; have hfz28_0 := blk_frozen BK171.out 0; have hfz28_1 := blk_frozen BK171.out 1; have hfz28_2 := blk_frozen BK171.out 2; have hfz28_3 := blk_frozen BK171.out 3; have hfz28_4 := blk_frozen BK171.out 4; have hfz28_5 := blk_frozen BK171.out 5; have hfz28_6 := blk_frozen BK171.out 6) | ((with_reducible refine gate_callee (f := 17) rfl ?_); refine goesL_ (some 23) rfl rfl Tryd.func17 (by kernel_rfl) rfl #[.string x2_4] rfl (by (try simp only [List.map_toArray, List.map_cons, List.map_nil]); first | done | rfl | (simp only [List.length_drop, List.length_take]; rfl)) ?_; (with_reducible refine (drachmref03_Read.calls x2_4 t172 t173 t174 t175 t176 t177 t178 t179 _ A12.out).mono ?_); rintro e w29 ⟨rfl, hb⟩; refine ⟨_, rfl, ?_⟩; have n0_ := Aside0.mk (blk_below (kp BK161.out) hb); have n1_ := Aside0.mk (blk_below (g := gb171) (o := .cells #[.int .i64 t163, .int .i64 t164, .int .i64 t165, .int .i64 t166, .int .i64 t167, .int .i64 t168, .int .i64 t169] 23 (0, 0)) (by (with_reducible repeat (first | refine blk_drewN ?_ _ | refine blk_drew ?_ | refine blk_alloc ?_ _)); refine blk_put (cs := #[.int .i64 t163, .int .i64 t164, .int .i64 t165, .int .i64 t166, .int .i64 t167, .int .i64 t168, .int .i64 0]) ?_ 6 _ rfl; (with_reducible repeat (first | refine blk_drewN ?_ _ | refine blk_drew ?_ | refine blk_alloc ?_ _)); refine blk_put (cs := #[.int .i64 t163, .int .i64 t164, .int .i64 t165, .int .i64 t166, .int .i64 t167, .int .i64 0, .int .i64 0]) ?_ 5 _ rfl; (with_reducible repeat (first | refine blk_drewN ?_ _ | refine blk_drew ?_ | refine blk_alloc ?_ _)); refine blk_put (cs := #[.int .i64 t163, .int .i64 t164, .int .i64 t165, .int .i64 t166, .int .i64 0, .int .i64 0, .int .i64 0]) ?_ 4 _ rfl; (with_reducible repeat (first | refine blk_drewN ?_ _ | refine blk_drew ?_ | refine blk_alloc ?_ _)); refine blk_put (cs := #[.int .i64 t163, .int .i64 t164, .int .i64 t165, .int .i64 0, .int .i64 0, .int .i64 0, .int .i64 0]) ?_ 3 _ rfl; (with_reducible repeat (first | refine blk_drewN ?_ _ | refine blk_drew ?_ | refine blk_alloc ?_ _)); refine blk_put (cs := #[.int .i64 t163, .int .i64 t164, .int .i64 0, .int .i64 0, .int .i64 0, .int .i64 0, .int .i64 0]) ?_ 2 _ rfl; (with_reducible repeat (first | refine blk_drewN ?_ _ | refine blk_drew ?_ | refine blk_alloc ?_ _)); refine blk_put (cs := #[.int .i64 t163, .int .i64 0, .int .i64 0, .int .i64 0, .int .i64 0, .int .i64 0, .int .i64 0]) ?_ 1 _ rfl; (with_reducible repeat (first | refine blk_drewN ?_ _ | refine blk_drew ?_ | refine blk_alloc ?_ _)); refine blk_put (cs := #[.int .i64 0, .int .i64 0, .int .i64 0, .int .i64 0, .int .i64 0, .int .i64 0, .int .i64 0]) ?_ 0 _ rfl; (with_reducible repeat (first | refine blk_drewN ?_ _ | refine blk_drew ?_ | refine blk_alloc ?_ _)); exact BK171.out) hb); have n2_ := Aside0.mk (below_step (bl HB.out) hb); clear BK161; clear BK171; clear HB; have BK161 := n0_; have BK171 := n1_; have HB := n2_; clear n0_ n1_ n2_; (try clear hb); (try clear hb2); (try clear hk); (try clear hi)) | ((with_reducible refine gate_dst (N := 10) rfl ?_); refine box_event ?hg (N := 10) ?hd (cs := #[.int .i64 0, .int .i64 0, .int .i64 0, .int .i64 0, .int .i64 0, .int .i64 0, .int .i64 0, .bool false]) (t := 40) ?hr ?_; (case hd => rfl); (case hg => rfl); (case hr => first | (go_simp; done) | (go_simp; rfl)); intro gb180 hg w30 hbox hb; have n0_ := Aside0.mk (blk_below (kp BK161.out) hb); have n1_ := Aside0.mk (blk_below (kp BK171.out) hb); have n2_ := Aside0.mk (below_step (bl HB.out) hb); have n3_ := Aside0.mk (hbox); have n4_ := Aside0.mk ((by rw [hg]; exact (below_size (bl HB.out)) : w.heap.size ≤ gb180)); have n5_ := Aside0.mk ((by rw [hg]; exact (below_size (bl HB.out)) : w.heap.size ≤ gb180)); have n6_ := Aside0.mk ((by rw [hg]; exact Nat.ne_of_lt (blk_lt (kp BK161.out)) : gb161 ≠ gb180)); have n7_ := Aside0.mk ((by rw [hg]; exact Nat.ne_of_gt (blk_lt (kp BK161.out)) : gb180 ≠ gb161)); have n8_ := Aside0.mk ((by rw [hg]; exact Nat.ne_of_lt (blk_lt (kp BK171.out)) : gb171 ≠ gb180)); have n9_ := Aside0.mk ((by rw [hg]; exact Nat.ne_of_gt (blk_lt (kp BK171.out)) : gb180 ≠ gb171)); clear BK161; clear BK171; clear HB; have BK161 := n0_; have BK171 := n1_; have HB := n2_; have BK180 := n3_; have GW180 := n4_; have GE180 := n5_; have NB161_180 := n6_; have NB180_161 := n7_; have NB171_180 := n8_; have NB180_171 := n9_; clear n0_ n1_ n2_ n3_ n4_ n5_ n6_ n7_ n8_ n9_; clear hb hbox hg; have hnb31 := NB180_161.out; have hnc31 := NB161_180.out; have hnb32 := NB180_171.out; have hnc32 := NB171_180.out; have hcz33_0 : w30.cell? ⟨gb180, 0, none⟩ = some (.int .i64 0) := (blk_cell BK180.out 0).trans rfl; have hcz33_1 : w30.cell? ⟨gb180, 1, none⟩ = some (.int .i64 0) := (blk_cell BK180.out 1).trans rfl; have hcz33_2 : w30.cell? ⟨gb180, 2, none⟩ = some (.int .i64 0) := (blk_cell BK180.out 2).trans rfl; have hcz33_3 : w30.cell? ⟨gb180, 3, none⟩ = some (.int .i64 0) := (blk_cell BK180.out 3).trans rfl; have hcz33_4 : w30.cell? ⟨gb180, 4, none⟩ = some (.int .i64 0) := (blk_cell BK180.out 4).trans rfl; have hcz33_5 : w30.cell? ⟨gb180, 5, none⟩ = some (.int .i64 0) := (blk_cell BK180.out 5).trans rfl; have hcz33_6 : w30.cell? ⟨gb180, 6, none⟩ = some (.int .i64 0) := (blk_cell BK180.out 6).trans rfl; have hcz33_7 : w30.cell? ⟨gb180, 7, none⟩ = some (.bool false) := (blk_cell BK180.out 7).trans rfl; have hfz33_0 := blk_frozen BK180.out 0; have hfz33_1 := blk_frozen BK180.out 1; have hfz33_2 := blk_frozen BK180.out 2; have hfz33_3 := blk_frozen BK180.out 3; have hfz33_4 := blk_frozen BK180.out 4; have hfz33_5 := blk_frozen BK180.out 5; have hfz33_6 := blk_frozen BK180.out 6; have hfz33_7 := blk_frozen BK180.out 7))
        have n0_ : Aside0 (((((((((w30.setCell ⟨gb180, 0, none⟩ (.int .i64 t172)).setCell ⟨gb180, 1, none⟩ (.int .i64 t173)).setCell ⟨gb180, 2, none⟩ (.int .i64 t174)).setCell ⟨gb180, 3, none⟩ (.int .i64 t175)).setCell ⟨gb180, 4, none⟩ (.int .i64 t176)).setCell ⟨gb180, 5, none⟩ (.int .i64 t177)).setCell ⟨gb180, 6, none⟩ (.int .i64 t178)).setCell ⟨gb180, 7, none⟩ (.bool t179)).heap[gb161]? = some (.cells #[.int .i64 a0_0, .int .i64 a0_1, .int .i64 a0_2, .int .i64 a0_3, .int .i64 a0_4, .int .i64 a0_5, .int .i64 a0_6, .int .i64 a0_7, .int .i64 a0_8, .int .i64 a0_9, .int .i64 a0_10, .int .i64 a0_11, .int .i64 a0_12, .int .i64 a0_13] 35 (0, 0))) := ⟨kp BK161.out⟩
        have n1_ : Aside0 (((((((((w30.setCell ⟨gb180, 0, none⟩ (.int .i64 t172)).setCell ⟨gb180, 1, none⟩ (.int .i64 t173)).setCell ⟨gb180, 2, none⟩ (.int .i64 t174)).setCell ⟨gb180, 3, none⟩ (.int .i64 t175)).setCell ⟨gb180, 4, none⟩ (.int .i64 t176)).setCell ⟨gb180, 5, none⟩ (.int .i64 t177)).setCell ⟨gb180, 6, none⟩ (.int .i64 t178)).setCell ⟨gb180, 7, none⟩ (.bool t179)).heap[gb171]? = some (.cells #[.int .i64 t163, .int .i64 t164, .int .i64 t165, .int .i64 t166, .int .i64 t167, .int .i64 t168, .int .i64 t169] 23 (0, 0))) := ⟨kp BK171.out⟩
        have n2_ : Aside0 (((((((((w30.setCell ⟨gb180, 0, none⟩ (.int .i64 t172)).setCell ⟨gb180, 1, none⟩ (.int .i64 t173)).setCell ⟨gb180, 2, none⟩ (.int .i64 t174)).setCell ⟨gb180, 3, none⟩ (.int .i64 t175)).setCell ⟨gb180, 4, none⟩ (.int .i64 t176)).setCell ⟨gb180, 5, none⟩ (.int .i64 t177)).setCell ⟨gb180, 6, none⟩ (.int .i64 t178)).setCell ⟨gb180, 7, none⟩ (.bool t179)).heap[gb180]? = some (.cells #[.int .i64 t172, .int .i64 t173, .int .i64 t174, .int .i64 t175, .int .i64 t176, .int .i64 t177, .int .i64 t178, .bool t179] 40 (0, 0))) := ⟨by (with_reducible repeat (first | refine blk_drewN ?_ _ | refine blk_drew ?_ | refine blk_alloc ?_ _)); refine blk_put (cs := #[.int .i64 t172, .int .i64 t173, .int .i64 t174, .int .i64 t175, .int .i64 t176, .int .i64 t177, .int .i64 t178, .bool false]) ?_ 7 _ rfl; (with_reducible repeat (first | refine blk_drewN ?_ _ | refine blk_drew ?_ | refine blk_alloc ?_ _)); refine blk_put (cs := #[.int .i64 t172, .int .i64 t173, .int .i64 t174, .int .i64 t175, .int .i64 t176, .int .i64 t177, .int .i64 0, .bool false]) ?_ 6 _ rfl; (with_reducible repeat (first | refine blk_drewN ?_ _ | refine blk_drew ?_ | refine blk_alloc ?_ _)); refine blk_put (cs := #[.int .i64 t172, .int .i64 t173, .int .i64 t174, .int .i64 t175, .int .i64 t176, .int .i64 0, .int .i64 0, .bool false]) ?_ 5 _ rfl; (with_reducible repeat (first | refine blk_drewN ?_ _ | refine blk_drew ?_ | refine blk_alloc ?_ _)); refine blk_put (cs := #[.int .i64 t172, .int .i64 t173, .int .i64 t174, .int .i64 t175, .int .i64 0, .int .i64 0, .int .i64 0, .bool false]) ?_ 4 _ rfl; (with_reducible repeat (first | refine blk_drewN ?_ _ | refine blk_drew ?_ | refine blk_alloc ?_ _)); refine blk_put (cs := #[.int .i64 t172, .int .i64 t173, .int .i64 t174, .int .i64 0, .int .i64 0, .int .i64 0, .int .i64 0, .bool false]) ?_ 3 _ rfl; (with_reducible repeat (first | refine blk_drewN ?_ _ | refine blk_drew ?_ | refine blk_alloc ?_ _)); refine blk_put (cs := #[.int .i64 t172, .int .i64 t173, .int .i64 0, .int .i64 0, .int .i64 0, .int .i64 0, .int .i64 0, .bool false]) ?_ 2 _ rfl; (with_reducible repeat (first | refine blk_drewN ?_ _ | refine blk_drew ?_ | refine blk_alloc ?_ _)); refine blk_put (cs := #[.int .i64 t172, .int .i64 0, .int .i64 0, .int .i64 0, .int .i64 0, .int .i64 0, .int .i64 0, .bool false]) ?_ 1 _ rfl; (with_reducible repeat (first | refine blk_drewN ?_ _ | refine blk_drew ?_ | refine blk_alloc ?_ _)); refine blk_put (cs := #[.int .i64 0, .int .i64 0, .int .i64 0, .int .i64 0, .int .i64 0, .int .i64 0, .int .i64 0, .bool false]) ?_ 0 _ rfl; (with_reducible repeat (first | refine blk_drewN ?_ _ | refine blk_drew ?_ | refine blk_alloc ?_ _)); exact BK180.out⟩
        have n3_ : Aside0 (Below w.heap.size w ((((((((w30.setCell ⟨gb180, 0, none⟩ (.int .i64 t172)).setCell ⟨gb180, 1, none⟩ (.int .i64 t173)).setCell ⟨gb180, 2, none⟩ (.int .i64 t174)).setCell ⟨gb180, 3, none⟩ (.int .i64 t175)).setCell ⟨gb180, 4, none⟩ (.int .i64 t176)).setCell ⟨gb180, 5, none⟩ (.int .i64 t177)).setCell ⟨gb180, 6, none⟩ (.int .i64 t178)).setCell ⟨gb180, 7, none⟩ (.bool t179))) := ⟨bl HB.out⟩
        (try clear BK161)
        (try clear BK171)
        (try clear BK180)
        (try clear HB)
        generalize ((((((((w30.setCell ⟨gb180, 0, none⟩ (.int .i64 t172)).setCell ⟨gb180, 1, none⟩ (.int .i64 t173)).setCell ⟨gb180, 2, none⟩ (.int .i64 t174)).setCell ⟨gb180, 3, none⟩ (.int .i64 t175)).setCell ⟨gb180, 4, none⟩ (.int .i64 t176)).setCell ⟨gb180, 5, none⟩ (.int .i64 t177)).setCell ⟨gb180, 6, none⟩ (.int .i64 t178)).setCell ⟨gb180, 7, none⟩ (.bool t179)) = w34 at n0_ n1_ n2_ n3_ ⊢
        have BK161 := n0_
        have BK171 := n1_
        have BK180 := n2_
        have HB := n3_
        clear n0_ n1_ n2_ n3_
        (try (rw [drewN_self w34]; generalize hq_ : World.drewN w34 _ = w34; replace BK161 := Aside0.mk (kq hq_ BK161.out); replace BK171 := Aside0.mk (kq hq_ BK171.out); replace BK180 := Aside0.mk (kq hq_ BK180.out); replace HB := Aside0.mk (bq hq_ HB.out); clear hq_))
        replace BK161 := Aside0.mk (blk_drew BK161.out)
        replace BK171 := Aside0.mk (blk_drew BK171.out)
        replace BK180 := Aside0.mk (blk_drew BK180.out)
        replace HB := Aside0.mk (below_drew1 HB.out)
        refine start_ (n := 44) (S := fun w' => w'.cell? ⟨gb171, 0, none⟩ = some (.int .i64 t163) ∧ w'.cell? ⟨gb171, 1, none⟩ = some (.int .i64 t164) ∧ w'.cell? ⟨gb171, 2, none⟩ = some (.int .i64 t165) ∧ w'.cell? ⟨gb171, 3, none⟩ = some (.int .i64 t166) ∧ w'.cell? ⟨gb171, 4, none⟩ = some (.int .i64 t167) ∧ w'.cell? ⟨gb171, 5, none⟩ = some (.int .i64 t168) ∧ w'.cell? ⟨gb171, 6, none⟩ = some (.int .i64 t169) ∧ w'.cell? ⟨gb180, 0, none⟩ = some (.int .i64 t172) ∧ w'.cell? ⟨gb180, 1, none⟩ = some (.int .i64 t173) ∧ w'.cell? ⟨gb180, 2, none⟩ = some (.int .i64 t174) ∧ w'.cell? ⟨gb180, 3, none⟩ = some (.int .i64 t175) ∧ w'.cell? ⟨gb180, 4, none⟩ = some (.int .i64 t176) ∧ w'.cell? ⟨gb180, 5, none⟩ = some (.int .i64 t177) ∧ w'.cell? ⟨gb180, 6, none⟩ = some (.int .i64 t178) ∧ w'.cell? ⟨gb180, 7, none⟩ = some (.bool t179) ∧ w'.cell? ⟨gb161, 0, none⟩ = some (.int .i64 a0_0) ∧ w'.cell? ⟨gb161, 1, none⟩ = some (.int .i64 a0_1) ∧ w'.cell? ⟨gb161, 2, none⟩ = some (.int .i64 a0_2) ∧ w'.cell? ⟨gb161, 3, none⟩ = some (.int .i64 a0_3) ∧ w'.cell? ⟨gb161, 4, none⟩ = some (.int .i64 a0_4) ∧ w'.cell? ⟨gb161, 5, none⟩ = some (.int .i64 a0_5) ∧ w'.cell? ⟨gb161, 6, none⟩ = some (.int .i64 a0_6) ∧ w'.cell? ⟨gb161, 7, none⟩ = some (.int .i64 a0_7) ∧ w'.cell? ⟨gb161, 8, none⟩ = some (.int .i64 a0_8) ∧ w'.cell? ⟨gb161, 9, none⟩ = some (.int .i64 a0_9) ∧ w'.cell? ⟨gb161, 10, none⟩ = some (.int .i64 a0_10) ∧ w'.cell? ⟨gb161, 11, none⟩ = some (.int .i64 a0_11) ∧ w'.cell? ⟨gb161, 12, none⟩ = some (.int .i64 a0_12) ∧ w'.cell? ⟨gb161, 13, none⟩ = some (.int .i64 a0_13)) (ds := []) #[false, false, false, false, false, false, false, false, false, false, false, false, false, false, false, false, false, false, false, false, false, false, false, false, false, false, false, false, false, false, false, false, false, false, false, false, false, false, false, false, false, false, false, false] (by kernel_rfl) rfl rfl ⟨(blk_cell BK171.out 0).trans rfl, (blk_cell BK171.out 1).trans rfl, (blk_cell BK171.out 2).trans rfl, (blk_cell BK171.out 3).trans rfl, (blk_cell BK171.out 4).trans rfl, (blk_cell BK171.out 5).trans rfl, (blk_cell BK171.out 6).trans rfl, (blk_cell BK180.out 0).trans rfl, (blk_cell BK180.out 1).trans rfl, (blk_cell BK180.out 2).trans rfl, (blk_cell BK180.out 3).trans rfl, (blk_cell BK180.out 4).trans rfl, (blk_cell BK180.out 5).trans rfl, (blk_cell BK180.out 6).trans rfl, (blk_cell BK180.out 7).trans rfl, (blk_cell BK161.out 0).trans rfl, (blk_cell BK161.out 1).trans rfl, (blk_cell BK161.out 2).trans rfl, (blk_cell BK161.out 3).trans rfl, (blk_cell BK161.out 4).trans rfl, (blk_cell BK161.out 5).trans rfl, (blk_cell BK161.out 6).trans rfl, (blk_cell BK161.out 7).trans rfl, (blk_cell BK161.out 8).trans rfl, (blk_cell BK161.out 9).trans rfl, (blk_cell BK161.out 10).trans rfl, (blk_cell BK161.out 11).trans rfl, (blk_cell BK161.out 12).trans rfl, (blk_cell BK161.out 13).trans rfl⟩ (fun hHeld => ?_); refine with_tabW drachmlaw03_DimsTells.tab6 drachmlaw03_DimsTells.bits6 (fun HT_ HW_ => ?_)
        generalize w34.drew = w35 at BK161 BK171 BK180 HB hHeld ⊢
        refine pure_ (i := 0) (N := some 24) (v := ?_) (a' := ?_) #[true, false, false, false, false, false, false, false, false, false, false, false, false, false, false, false, false, false, false, false, false, false, false, false, false, false, false, false, false, false, false, false, false, false, false, false, false, false, false, false, false, false, false, false] rfl rfl (any_of HT_.out (by kernel_rfl)) (fun _ _ _ h => h) (Or.inl ⟨by rfl, ?_⟩) ?_ ?_
        rotate_left
        ·intro w'
         go_simp
         first | with_reducible rfl | (rw [if_neg (by simp only [lit_size, List.length_cons, List.length_nil, ByteArray.size_extract, ByteArray.size_append, eq_iff_iff, iff_true, iff_false] at *; omega)])
        rotate_left
        ·simp only [Act.put, List.setIfInBounds_toArray, List.set_cons_zero, List.set_cons_succ, i64_w, i32_w]
         rfl
        refine pure_ (i := 1) (N := some 25) (v := ?_) (a' := ?_) #[true, true, false, false, false, false, false, false, false, false, false, false, false, false, false, false, false, false, false, false, false, false, false, false, false, false, false, false, false, false, false, false, false, false, false, false, false, false, false, false, false, false, false, false] rfl rfl (any_of HT_.out (by kernel_rfl)) (fun _ _ _ h => h) (Or.inl ⟨by rfl, ?_⟩) ?_ ?_
        rotate_left
        ·intro w'
         go_simp
         first | with_reducible rfl | (rw [if_neg (by simp only [lit_size, List.length_cons, List.length_nil, ByteArray.size_extract, ByteArray.size_append, eq_iff_iff, iff_true, iff_false] at *; omega)])
        rotate_left
        ·simp only [Act.put, List.setIfInBounds_toArray, List.set_cons_zero, List.set_cons_succ, i64_w, i32_w]
         rfl
        refine pure_ (i := 3) (N := some 27) (v := ?_) (a' := ?_) #[true, true, false, true, false, false, false, false, false, false, false, false, false, false, false, false, false, false, false, false, false, false, false, false, false, false, false, false, false, false, false, false, false, false, false, false, false, false, false, false, false, false, false, false] rfl rfl (any_of HT_.out (by kernel_rfl)) (fun _ _ _ h => h) (Or.inl ⟨by rfl, ?_⟩) ?_ ?_
        rotate_left
        ·intro w'
         go_simp
         first | with_reducible rfl | (rw [if_neg (by simp only [lit_size, List.length_cons, List.length_nil, ByteArray.size_extract, ByteArray.size_append, eq_iff_iff, iff_true, iff_false] at *; omega)])
        rotate_left
        ·simp only [Act.put, List.setIfInBounds_toArray, List.set_cons_zero, List.set_cons_succ, i64_w, i32_w]
         rfl
        refine take_ (i := 2) (N := some 26) (v := ?_) (a' := ?_) #[true, true, true, true, false, false, false, false, false, false, false, false, false, false, false, false, false, false, false, false, false, false, false, false, false, false, false, false, false, false, false, false, false, false, false, false, false, false, false, false, false, false, false, false] rfl rfl (take_ofW HT_.out HW_.out (by kernel_rfl)) (fun _ _ _ h => h) (Or.inl ⟨by rfl, ?_⟩) hHeld ?_ ?_
        rotate_left
        ·rintro w' ⟨s0, s1, s2, s3, s4, s5, s6, s7, s8, s9, s10, s11, s12, s13, s14, s15, s16, s17, s18, s19, s20, s21, s22, s23, s24, s25, s26, s27, s28⟩
         go_simp
         first | with_reducible rfl | (rw [if_neg (by simp only [lit_size, List.length_cons, List.length_nil, ByteArray.size_extract, ByteArray.size_append, eq_iff_iff, iff_true, iff_false] at *; omega)])
        rotate_left
        ·simp only [Act.put, List.setIfInBounds_toArray, List.set_cons_zero, List.set_cons_succ, i64_w, i32_w]
         rfl
        refine take_ (i := 4) (N := some 28) (v := ?_) (a' := ?_) #[true, true, true, true, true, false, false, false, false, false, false, false, false, false, false, false, false, false, false, false, false, false, false, false, false, false, false, false, false, false, false, false, false, false, false, false, false, false, false, false, false, false, false, false] rfl rfl (take_ofW HT_.out HW_.out (by kernel_rfl)) (fun _ _ _ h => h) (Or.inl ⟨by rfl, ?_⟩) hHeld ?_ ?_
        rotate_left
        ·rintro w' ⟨s0, s1, s2, s3, s4, s5, s6, s7, s8, s9, s10, s11, s12, s13, s14, s15, s16, s17, s18, s19, s20, s21, s22, s23, s24, s25, s26, s27, s28⟩
         go_simp
         first | with_reducible rfl | (rw [if_neg (by simp only [lit_size, List.length_cons, List.length_nil, ByteArray.size_extract, ByteArray.size_append, eq_iff_iff, iff_true, iff_false] at *; omega)])
        rotate_left
        ·simp only [Act.put, List.setIfInBounds_toArray, List.set_cons_zero, List.set_cons_succ, i64_w, i32_w]
         rfl
        refine pure_ (i := 5) (N := some 29) (v := ?_) (a' := ?_) #[true, true, true, true, true, true, false, false, false, false, false, false, false, false, false, false, false, false, false, false, false, false, false, false, false, false, false, false, false, false, false, false, false, false, false, false, false, false, false, false, false, false, false, false] rfl rfl (any_of HT_.out (by kernel_rfl)) (fun _ _ _ h => h) (Or.inl ⟨by rfl, ?_⟩) ?_ ?_
        rotate_left
        ·intro w'
         go_simp
         first | with_reducible rfl | (rw [if_neg (by simp only [lit_size, List.length_cons, List.length_nil, ByteArray.size_extract, ByteArray.size_append, eq_iff_iff, iff_true, iff_false] at *; omega)])
        rotate_left
        ·simp only [Act.put, List.setIfInBounds_toArray, List.set_cons_zero, List.set_cons_succ, i64_w, i32_w]
         rfl
        refine pure_ (i := 6) (N := some 30) (v := ?_) (a' := ?_) #[true, true, true, true, true, true, true, false, false, false, false, false, false, false, false, false, false, false, false, false, false, false, false, false, false, false, false, false, false, false, false, false, false, false, false, false, false, false, false, false, false, false, false, false] rfl rfl (any_of HT_.out (by kernel_rfl)) (fun _ _ _ h => h) (Or.inl ⟨by rfl, ?_⟩) ?_ ?_
        rotate_left
        ·intro w'
         go_simp
         first | with_reducible rfl | (rw [if_neg (by simp only [lit_size, List.length_cons, List.length_nil, ByteArray.size_extract, ByteArray.size_append, eq_iff_iff, iff_true, iff_false] at *; omega)])
        rotate_left
        ·simp only [Act.put, List.setIfInBounds_toArray, List.set_cons_zero, List.set_cons_succ, i64_w, i32_w]
         rfl
        refine pure_ (i := 7) (N := some 31) (v := ?_) (a' := ?_) #[true, true, true, true, true, true, true, true, false, false, false, false, false, false, false, false, false, false, false, false, false, false, false, false, false, false, false, false, false, false, false, false, false, false, false, false, false, false, false, false, false, false, false, false] rfl rfl (any_of HT_.out (by kernel_rfl)) (fun _ _ _ h => h) (Or.inl ⟨by rfl, ?_⟩) ?_ ?_
        rotate_left
        ·intro w'
         go_simp
         first | with_reducible rfl | (rw [if_neg (by simp only [lit_size, List.length_cons, List.length_nil, ByteArray.size_extract, ByteArray.size_append, eq_iff_iff, iff_true, iff_false] at *; omega)])
        rotate_left
        ·simp only [Act.put, List.setIfInBounds_toArray, List.set_cons_zero, List.set_cons_succ, i64_w, i32_w]
         rfl
        refine pure_ (i := 8) (N := some 32) (v := ?_) (a' := ?_) #[true, true, true, true, true, true, true, true, true, false, false, false, false, false, false, false, false, false, false, false, false, false, false, false, false, false, false, false, false, false, false, false, false, false, false, false, false, false, false, false, false, false, false, false] rfl rfl (any_of HT_.out (by kernel_rfl)) (fun _ _ _ h => h) (Or.inl ⟨by rfl, ?_⟩) ?_ ?_
        rotate_left
        ·intro w'
         go_simp
         first | with_reducible rfl | (rw [if_neg (by simp only [lit_size, List.length_cons, List.length_nil, ByteArray.size_extract, ByteArray.size_append, eq_iff_iff, iff_true, iff_false] at *; omega)])
        rotate_left
        ·simp only [Act.put, List.setIfInBounds_toArray, List.set_cons_zero, List.set_cons_succ, i64_w, i32_w]
         rfl
        refine pure_ (i := 9) (N := some 33) (v := ?_) (a' := ?_) #[true, true, true, true, true, true, true, true, true, true, false, false, false, false, false, false, false, false, false, false, false, false, false, false, false, false, false, false, false, false, false, false, false, false, false, false, false, false, false, false, false, false, false, false] rfl rfl (any_of HT_.out (by kernel_rfl)) (fun _ _ _ h => h) (Or.inl ⟨by rfl, ?_⟩) ?_ ?_
        rotate_left
        ·intro w'
         go_simp
         first | with_reducible rfl | (rw [if_neg (by simp only [lit_size, List.length_cons, List.length_nil, ByteArray.size_extract, ByteArray.size_append, eq_iff_iff, iff_true, iff_false] at *; omega)])
        rotate_left
        ·simp only [Act.put, List.setIfInBounds_toArray, List.set_cons_zero, List.set_cons_succ, i64_w, i32_w]
         rfl
        refine take_ (i := 10) (N := some 34) (v := ?_) (a' := ?_) #[true, true, true, true, true, true, true, true, true, true, true, false, false, false, false, false, false, false, false, false, false, false, false, false, false, false, false, false, false, false, false, false, false, false, false, false, false, false, false, false, false, false, false, false] rfl rfl (take_ofW HT_.out HW_.out (by kernel_rfl)) (fun _ _ _ h => h) (Or.inl ⟨by rfl, ?_⟩) hHeld ?_ ?_
        rotate_left
        ·rintro w' ⟨s0, s1, s2, s3, s4, s5, s6, s7, s8, s9, s10, s11, s12, s13, s14, s15, s16, s17, s18, s19, s20, s21, s22, s23, s24, s25, s26, s27, s28⟩
         go_simp
         first | with_reducible rfl | (rw [if_neg (by simp only [lit_size, List.length_cons, List.length_nil, ByteArray.size_extract, ByteArray.size_append, eq_iff_iff, iff_true, iff_false] at *; omega)])
        rotate_left
        ·simp only [Act.put, List.setIfInBounds_toArray, List.set_cons_zero, List.set_cons_succ, i64_w, i32_w]
         rfl
        refine pure_ (i := 11) (N := some 35) (v := ?_) (a' := ?_) #[true, true, true, true, true, true, true, true, true, true, true, true, false, false, false, false, false, false, false, false, false, false, false, false, false, false, false, false, false, false, false, false, false, false, false, false, false, false, false, false, false, false, false, false] rfl rfl (any_of HT_.out (by kernel_rfl)) (fun _ _ _ h => h) (Or.inl ⟨by rfl, ?_⟩) ?_ ?_
        rotate_left
        ·intro w'
         go_simp
         first | with_reducible rfl | (rw [if_neg (by simp only [lit_size, List.length_cons, List.length_nil, ByteArray.size_extract, ByteArray.size_append, eq_iff_iff, iff_true, iff_false] at *; omega)])
        rotate_left
        ·simp only [Act.put, List.setIfInBounds_toArray, List.set_cons_zero, List.set_cons_succ, i64_w, i32_w]
         rfl
        refine pure_ (i := 12) (N := some 36) (v := ?_) (a' := ?_) #[true, true, true, true, true, true, true, true, true, true, true, true, true, false, false, false, false, false, false, false, false, false, false, false, false, false, false, false, false, false, false, false, false, false, false, false, false, false, false, false, false, false, false, false] rfl rfl (any_of HT_.out (by kernel_rfl)) (fun _ _ _ h => h) (Or.inl ⟨by rfl, ?_⟩) ?_ ?_
        rotate_left
        ·intro w'
         go_simp
         first | with_reducible rfl | (rw [if_neg (by simp only [lit_size, List.length_cons, List.length_nil, ByteArray.size_extract, ByteArray.size_append, eq_iff_iff, iff_true, iff_false] at *; omega)])
        rotate_left
        ·simp only [Act.put, List.setIfInBounds_toArray, List.set_cons_zero, List.set_cons_succ, i64_w, i32_w]
         rfl
        refine pure_ (i := 13) (N := some 37) (v := ?_) (a' := ?_) #[true, true, true, true, true, true, true, true, true, true, true, true, true, true, false, false, false, false, false, false, false, false, false, false, false, false, false, false, false, false, false, false, false, false, false, false, false, false, false, false, false, false, false, false] rfl rfl (any_of HT_.out (by kernel_rfl)) (fun _ _ _ h => h) (Or.inl ⟨by rfl, ?_⟩) ?_ ?_
        rotate_left
        ·intro w'
         go_simp
         first | with_reducible rfl | (rw [if_neg (by simp only [lit_size, List.length_cons, List.length_nil, ByteArray.size_extract, ByteArray.size_append, eq_iff_iff, iff_true, iff_false] at *; omega)])
        rotate_left
        ·simp only [Act.put, List.setIfInBounds_toArray, List.set_cons_zero, List.set_cons_succ, i64_w, i32_w]
         rfl
        refine pure_ (i := 14) (N := some 38) (v := ?_) (a' := ?_) #[true, true, true, true, true, true, true, true, true, true, true, true, true, true, true, false, false, false, false, false, false, false, false, false, false, false, false, false, false, false, false, false, false, false, false, false, false, false, false, false, false, false, false, false] rfl rfl (any_of HT_.out (by kernel_rfl)) (fun _ _ _ h => h) (Or.inl ⟨by rfl, ?_⟩) ?_ ?_
        rotate_left
        ·intro w'
         go_simp
         first | with_reducible rfl | (rw [if_neg (by simp only [lit_size, List.length_cons, List.length_nil, ByteArray.size_extract, ByteArray.size_append, eq_iff_iff, iff_true, iff_false] at *; omega)])
        rotate_left
        ·simp only [Act.put, List.setIfInBounds_toArray, List.set_cons_zero, List.set_cons_succ, i64_w, i32_w]
         rfl
        refine pure_ (i := 16) (N := some 40) (v := ?_) (a' := ?_) #[true, true, true, true, true, true, true, true, true, true, true, true, true, true, true, false, true, false, false, false, false, false, false, false, false, false, false, false, false, false, false, false, false, false, false, false, false, false, false, false, false, false, false, false] rfl rfl (any_of HT_.out (by kernel_rfl)) (fun _ _ _ h => h) (Or.inl ⟨by rfl, ?_⟩) ?_ ?_
        rotate_left
        ·intro w'
         go_simp
         first | with_reducible rfl | (rw [if_neg (by simp only [lit_size, List.length_cons, List.length_nil, ByteArray.size_extract, ByteArray.size_append, eq_iff_iff, iff_true, iff_false] at *; omega)])
        rotate_left
        ·simp only [Act.put, List.setIfInBounds_toArray, List.set_cons_zero, List.set_cons_succ, i64_w, i32_w]
         rfl
        refine pure_ (i := 18) (N := some 42) (v := ?_) (a' := ?_) #[true, true, true, true, true, true, true, true, true, true, true, true, true, true, true, false, true, false, true, false, false, false, false, false, false, false, false, false, false, false, false, false, false, false, false, false, false, false, false, false, false, false, false, false] rfl rfl (any_of HT_.out (by kernel_rfl)) (fun _ _ _ h => h) (Or.inl ⟨by rfl, ?_⟩) ?_ ?_
        rotate_left
        ·intro w'
         go_simp
         first | with_reducible rfl | (rw [if_neg (by simp only [lit_size, List.length_cons, List.length_nil, ByteArray.size_extract, ByteArray.size_append, eq_iff_iff, iff_true, iff_false] at *; omega)])
        rotate_left
        ·simp only [Act.put, List.setIfInBounds_toArray, List.set_cons_zero, List.set_cons_succ, i64_w, i32_w]
         rfl
        refine take_ (i := 15) (N := some 39) (v := ?_) (a' := ?_) #[true, true, true, true, true, true, true, true, true, true, true, true, true, true, true, true, true, false, true, false, false, false, false, false, false, false, false, false, false, false, false, false, false, false, false, false, false, false, false, false, false, false, false, false] rfl rfl (take_ofW HT_.out HW_.out (by kernel_rfl)) (fun _ _ _ h => h) (Or.inl ⟨by rfl, ?_⟩) hHeld ?_ ?_
        rotate_left
        ·rintro w' ⟨s0, s1, s2, s3, s4, s5, s6, s7, s8, s9, s10, s11, s12, s13, s14, s15, s16, s17, s18, s19, s20, s21, s22, s23, s24, s25, s26, s27, s28⟩
         go_simp
         first | with_reducible rfl | (rw [if_neg (by simp only [lit_size, List.length_cons, List.length_nil, ByteArray.size_extract, ByteArray.size_append, eq_iff_iff, iff_true, iff_false] at *; omega)])
        rotate_left
        ·simp only [Act.put, List.setIfInBounds_toArray, List.set_cons_zero, List.set_cons_succ, i64_w, i32_w]
         rfl
        refine take_ (i := 17) (N := some 41) (v := ?_) (a' := ?_) #[true, true, true, true, true, true, true, true, true, true, true, true, true, true, true, true, true, true, true, false, false, false, false, false, false, false, false, false, false, false, false, false, false, false, false, false, false, false, false, false, false, false, false, false] rfl rfl (take_ofW HT_.out HW_.out (by kernel_rfl)) (fun _ _ _ h => h) (Or.inl ⟨by rfl, ?_⟩) hHeld ?_ ?_
        rotate_left
        ·rintro w' ⟨s0, s1, s2, s3, s4, s5, s6, s7, s8, s9, s10, s11, s12, s13, s14, s15, s16, s17, s18, s19, s20, s21, s22, s23, s24, s25, s26, s27, s28⟩
         go_simp
         first | with_reducible rfl | (rw [if_neg (by simp only [lit_size, List.length_cons, List.length_nil, ByteArray.size_extract, ByteArray.size_append, eq_iff_iff, iff_true, iff_false] at *; omega)])
        rotate_left
        ·simp only [Act.put, List.setIfInBounds_toArray, List.set_cons_zero, List.set_cons_succ, i64_w, i32_w]
         rfl
        refine one_ (i := 19) (N := some 43) #[true, true, true, true, true, true, true, true, true, true, true, true, true, true, true, true, true, true, true, true, false, false, false, false, false, false, false, false, false, false, false, false, false, false, false, false, false, false, false, false, false, false, false, false] rfl rfl (one_of HT_.out (by kernel_rfl)) (by decide) (fun K hK => ?_)
        refine goes_ Tryd.func18 (by kernel_rfl) rfl #[.agg #[.int .i64 a0_0, .int .i64 a0_1, .int .i64 a0_2, .int .i64 a0_3, .int .i64 a0_4, .int .i64 a0_5, .int .i64 a0_6], .agg #[.int .i64 a0_7, .int .i64 a0_8, .int .i64 a0_9, .int .i64 a0_10, .int .i64 a0_11, .int .i64 a0_12, .int .i64 a0_13], .int .i64 a1] (by rfl) rfl rfl (by (try simp only [List.map_toArray, List.map_cons, List.map_nil]); first | done | rfl | (simp only [List.length_drop, List.length_take]; rfl)) ?_
        with_reducible refine (drachmlaw03_tells.calls kj4 a0_0 a0_1 a0_2 a0_3 a0_4 a0_5 a0_6 a0_7 a0_8 a0_9 a0_10 a0_11 a0_12 a0_13 a1 true _ (Glob.use hG (by decide) (by repeat (first | (with_reducible first | exact HB.out | exact Below.refl _ _ | apply below_alloc | apply pw_below_drewN | apply below_drew1) | exact HB.out | exact Below.refl _ _))) A16.out).mono ?_
        rintro e w36 ⟨rfl, hb⟩
        refine ⟨_, rfl, ?_⟩
        replace BK161 := Aside0.mk (blk_below (kp BK161.out) hb)
        replace BK171 := Aside0.mk (blk_below (kp BK171.out) hb)
        replace BK180 := Aside0.mk (blk_below (kp BK180.out) hb)
        replace HB := Aside0.mk (below_step (bl HB.out) hb)
        (try clear hb)
        (try clear hb2)
        (try clear hk)
        (try clear hi)
        refine hK.out _ _ ⟨(blk_cell BK171.out 0).trans rfl, (blk_cell BK171.out 1).trans rfl, (blk_cell BK171.out 2).trans rfl, (blk_cell BK171.out 3).trans rfl, (blk_cell BK171.out 4).trans rfl, (blk_cell BK171.out 5).trans rfl, (blk_cell BK171.out 6).trans rfl, (blk_cell BK180.out 0).trans rfl, (blk_cell BK180.out 1).trans rfl, (blk_cell BK180.out 2).trans rfl, (blk_cell BK180.out 3).trans rfl, (blk_cell BK180.out 4).trans rfl, (blk_cell BK180.out 5).trans rfl, (blk_cell BK180.out 6).trans rfl, (blk_cell BK180.out 7).trans rfl, (blk_cell BK161.out 0).trans rfl, (blk_cell BK161.out 1).trans rfl, (blk_cell BK161.out 2).trans rfl, (blk_cell BK161.out 3).trans rfl, (blk_cell BK161.out 4).trans rfl, (blk_cell BK161.out 5).trans rfl, (blk_cell BK161.out 6).trans rfl, (blk_cell BK161.out 7).trans rfl, (blk_cell BK161.out 8).trans rfl, (blk_cell BK161.out 9).trans rfl, (blk_cell BK161.out 10).trans rfl, (blk_cell BK161.out 11).trans rfl, (blk_cell BK161.out 12).trans rfl, (blk_cell BK161.out 13).trans rfl⟩ (fun hHeld => ?_)
        clear hK K
        refine norm_ (a' := ?_) ?_ ?_
        rotate_left
        ·show Act.put _ (some 43) _ = _
         simp only [Act.put, List.setIfInBounds_toArray, List.set_cons_zero, List.set_cons_succ, i64_w, i32_w]
         rfl
        refine pure_ (i := 20) (N := some 44) (v := ?_) (a' := ?_) #[true, true, true, true, true, true, true, true, true, true, true, true, true, true, true, true, true, true, true, true, true, false, false, false, false, false, false, false, false, false, false, false, false, false, false, false, false, false, false, false, false, false, false, false] rfl rfl (any_of HT_.out (by kernel_rfl)) (fun _ _ _ h => h) (Or.inl ⟨by rfl, ?_⟩) ?_ ?_
        rotate_left
        ·intro w'
         go_simp
         first | with_reducible rfl | (rw [if_neg (by simp only [lit_size, List.length_cons, List.length_nil, ByteArray.size_extract, ByteArray.size_append, eq_iff_iff, iff_true, iff_false] at *; omega)])
        rotate_left
        ·simp only [Act.put, List.setIfInBounds_toArray, List.set_cons_zero, List.set_cons_succ, i64_w, i32_w]
         rfl
        refine pure_ (i := 21) (N := some 45) (v := ?_) (a' := ?_) #[true, true, true, true, true, true, true, true, true, true, true, true, true, true, true, true, true, true, true, true, true, true, false, false, false, false, false, false, false, false, false, false, false, false, false, false, false, false, false, false, false, false, false, false] rfl rfl (any_of HT_.out (by kernel_rfl)) (fun _ _ _ h => h) (Or.inl ⟨by rfl, ?_⟩) ?_ ?_
        rotate_left
        ·intro w'
         go_simp
         first | with_reducible rfl | (rw [if_neg (by simp only [lit_size, List.length_cons, List.length_nil, ByteArray.size_extract, ByteArray.size_append, eq_iff_iff, iff_true, iff_false] at *; omega)])
        rotate_left
        ·simp only [Act.put, List.setIfInBounds_toArray, List.set_cons_zero, List.set_cons_succ, i64_w, i32_w]
         rfl
        refine pure_ (i := 22) (N := some 46) (v := ?_) (a' := ?_) #[true, true, true, true, true, true, true, true, true, true, true, true, true, true, true, true, true, true, true, true, true, true, true, false, false, false, false, false, false, false, false, false, false, false, false, false, false, false, false, false, false, false, false, false] rfl rfl (any_of HT_.out (by kernel_rfl)) (fun _ _ _ h => h) (Or.inl ⟨by rfl, ?_⟩) ?_ ?_
        rotate_left
        ·intro w'
         go_simp
         first | with_reducible rfl | (rw [if_neg (by simp only [lit_size, List.length_cons, List.length_nil, ByteArray.size_extract, ByteArray.size_append, eq_iff_iff, iff_true, iff_false] at *; omega)])
        rotate_left
        ·simp only [Act.put, List.setIfInBounds_toArray, List.set_cons_zero, List.set_cons_succ, i64_w, i32_w]
         rfl
        refine pure_ (i := 25) (N := some 49) (v := ?_) (a' := ?_) #[true, true, true, true, true, true, true, true, true, true, true, true, true, true, true, true, true, true, true, true, true, true, true, false, false, true, false, false, false, false, false, false, false, false, false, false, false, false, false, false, false, false, false, false] rfl rfl (any_of HT_.out (by kernel_rfl)) (fun _ _ _ h => h) (Or.inl ⟨by rfl, ?_⟩) ?_ ?_
        rotate_left
        ·intro w'
         go_simp
         first | with_reducible rfl | (rw [if_neg (by simp only [lit_size, List.length_cons, List.length_nil, ByteArray.size_extract, ByteArray.size_append, eq_iff_iff, iff_true, iff_false] at *; omega)])
        rotate_left
        ·simp only [Act.put, List.setIfInBounds_toArray, List.set_cons_zero, List.set_cons_succ, i64_w, i32_w]
         rfl
        refine pure_ (i := 28) (N := some 52) (v := ?_) (a' := ?_) #[true, true, true, true, true, true, true, true, true, true, true, true, true, true, true, true, true, true, true, true, true, true, true, false, false, true, false, false, true, false, false, false, false, false, false, false, false, false, false, false, false, false, false, false] rfl rfl (any_of HT_.out (by kernel_rfl)) (fun _ _ _ h => h) (Or.inl ⟨by rfl, ?_⟩) ?_ ?_
        rotate_left
        ·intro w'
         go_simp
         first | with_reducible rfl | (rw [if_neg (by simp only [lit_size, List.length_cons, List.length_nil, ByteArray.size_extract, ByteArray.size_append, eq_iff_iff, iff_true, iff_false] at *; omega)])
        rotate_left
        ·simp only [Act.put, List.setIfInBounds_toArray, List.set_cons_zero, List.set_cons_succ, i64_w, i32_w]
         rfl
        refine pure_ (i := 29) (N := some 53) (v := ?_) (a' := ?_) #[true, true, true, true, true, true, true, true, true, true, true, true, true, true, true, true, true, true, true, true, true, true, true, false, false, true, false, false, true, true, false, false, false, false, false, false, false, false, false, false, false, false, false, false] rfl rfl (any_of HT_.out (by kernel_rfl)) (fun _ _ _ h => h) (Or.inl ⟨by rfl, ?_⟩) ?_ ?_
        rotate_left
        ·intro w'
         go_simp
         first | with_reducible rfl | (rw [if_neg (by simp only [lit_size, List.length_cons, List.length_nil, ByteArray.size_extract, ByteArray.size_append, eq_iff_iff, iff_true, iff_false] at *; omega)])
        rotate_left
        ·simp only [Act.put, List.setIfInBounds_toArray, List.set_cons_zero, List.set_cons_succ, i64_w, i32_w]
         rfl
        refine take_ (i := 23) (N := some 47) (v := ?_) (a' := ?_) #[true, true, true, true, true, true, true, true, true, true, true, true, true, true, true, true, true, true, true, true, true, true, true, true, false, true, false, false, true, true, false, false, false, false, false, false, false, false, false, false, false, false, false, false] rfl rfl (take_ofW HT_.out HW_.out (by kernel_rfl)) (fun _ _ _ h => h) (Or.inl ⟨by rfl, ?_⟩) hHeld ?_ ?_
        rotate_left
        ·rintro w' ⟨s0, s1, s2, s3, s4, s5, s6, s7, s8, s9, s10, s11, s12, s13, s14, s15, s16, s17, s18, s19, s20, s21, s22, s23, s24, s25, s26, s27, s28⟩
         go_simp
         first | with_reducible rfl | (rw [if_neg (by simp only [lit_size, List.length_cons, List.length_nil, ByteArray.size_extract, ByteArray.size_append, eq_iff_iff, iff_true, iff_false] at *; omega)])
        rotate_left
        ·simp only [Act.put, List.setIfInBounds_toArray, List.set_cons_zero, List.set_cons_succ, i64_w, i32_w]
         rfl
        refine take_ (i := 26) (N := some 50) (v := ?_) (a' := ?_) #[true, true, true, true, true, true, true, true, true, true, true, true, true, true, true, true, true, true, true, true, true, true, true, true, false, true, true, false, true, true, false, false, false, false, false, false, false, false, false, false, false, false, false, false] rfl rfl (take_ofW HT_.out HW_.out (by kernel_rfl)) (fun _ _ _ h => h) (Or.inl ⟨by rfl, ?_⟩) hHeld ?_ ?_
        rotate_left
        ·rintro w' ⟨s0, s1, s2, s3, s4, s5, s6, s7, s8, s9, s10, s11, s12, s13, s14, s15, s16, s17, s18, s19, s20, s21, s22, s23, s24, s25, s26, s27, s28⟩
         go_simp
         first | with_reducible rfl | (rw [if_neg (by simp only [lit_size, List.length_cons, List.length_nil, ByteArray.size_extract, ByteArray.size_append, eq_iff_iff, iff_true, iff_false] at *; omega)])
        rotate_left
        ·simp only [Act.put, List.setIfInBounds_toArray, List.set_cons_zero, List.set_cons_succ, i64_w, i32_w]
         rfl
        refine one_ (i := 24) (N := some 48) #[true, true, true, true, true, true, true, true, true, true, true, true, true, true, true, true, true, true, true, true, true, true, true, true, true, true, true, false, true, true, false, false, false, false, false, false, false, false, false, false, false, false, false, false] rfl rfl (one_of HT_.out (by kernel_rfl)) (by decide) (fun K hK => ?_)
        refine goes_ Tryd.func10 (by kernel_rfl) rfl #[.agg #[.int .i64 a0_0, .int .i64 a0_1, .int .i64 a0_2, .int .i64 a0_3, .int .i64 a0_4, .int .i64 a0_5, .int .i64 a0_6], .int .i64 99] (by rfl) rfl rfl (by (try simp only [List.map_toArray, List.map_cons, List.map_nil]); first | done | rfl | (simp only [List.length_drop, List.length_take]; rfl)) ?_
        with_reducible refine (drachmlaw03_near.calls a0_0 a0_1 a0_2 a0_3 a0_4 a0_5 a0_6 99 t182 t183 t184 t185 t186 t187 t188 _ A18.out).mono ?_
        rintro e w37 ⟨rfl, hb⟩
        refine ⟨_, rfl, ?_⟩
        replace BK161 := Aside0.mk (blk_below (kp BK161.out) hb)
        replace BK171 := Aside0.mk (blk_below (kp BK171.out) hb)
        replace BK180 := Aside0.mk (blk_below (kp BK180.out) hb)
        replace HB := Aside0.mk (below_step (bl HB.out) hb)
        (try clear hb)
        (try clear hb2)
        (try clear hk)
        (try clear hi)
        refine hK.out _ _ ⟨(blk_cell BK171.out 0).trans rfl, (blk_cell BK171.out 1).trans rfl, (blk_cell BK171.out 2).trans rfl, (blk_cell BK171.out 3).trans rfl, (blk_cell BK171.out 4).trans rfl, (blk_cell BK171.out 5).trans rfl, (blk_cell BK171.out 6).trans rfl, (blk_cell BK180.out 0).trans rfl, (blk_cell BK180.out 1).trans rfl, (blk_cell BK180.out 2).trans rfl, (blk_cell BK180.out 3).trans rfl, (blk_cell BK180.out 4).trans rfl, (blk_cell BK180.out 5).trans rfl, (blk_cell BK180.out 6).trans rfl, (blk_cell BK180.out 7).trans rfl, (blk_cell BK161.out 0).trans rfl, (blk_cell BK161.out 1).trans rfl, (blk_cell BK161.out 2).trans rfl, (blk_cell BK161.out 3).trans rfl, (blk_cell BK161.out 4).trans rfl, (blk_cell BK161.out 5).trans rfl, (blk_cell BK161.out 6).trans rfl, (blk_cell BK161.out 7).trans rfl, (blk_cell BK161.out 8).trans rfl, (blk_cell BK161.out 9).trans rfl, (blk_cell BK161.out 10).trans rfl, (blk_cell BK161.out 11).trans rfl, (blk_cell BK161.out 12).trans rfl, (blk_cell BK161.out 13).trans rfl⟩ (fun hHeld => ?_)
        clear hK K
        refine norm_ (a' := ?_) ?_ ?_
        rotate_left
        ·show Act.put _ (some 48) _ = _
         simp only [Act.put, List.setIfInBounds_toArray, List.set_cons_zero, List.set_cons_succ, i64_w, i32_w]
         rfl
        refine one_ (i := 27) (N := some 51) #[true, true, true, true, true, true, true, true, true, true, true, true, true, true, true, true, true, true, true, true, true, true, true, true, true, true, true, true, true, true, false, false, false, false, false, false, false, false, false, false, false, false, false, false] rfl rfl (one_of HT_.out (by kernel_rfl)) (by decide) (fun K hK => ?_)
        refine goes_ Tryd.func10 (by kernel_rfl) rfl #[.agg #[.int .i64 a0_7, .int .i64 a0_8, .int .i64 a0_9, .int .i64 a0_10, .int .i64 a0_11, .int .i64 a0_12, .int .i64 a0_13], .int .i64 99] (by rfl) rfl rfl (by (try simp only [List.map_toArray, List.map_cons, List.map_nil]); first | done | rfl | (simp only [List.length_drop, List.length_take]; rfl)) ?_
        with_reducible refine (drachmlaw03_near.calls a0_7 a0_8 a0_9 a0_10 a0_11 a0_12 a0_13 99 t189 t190 t191 t192 t193 t194 t195 _ A19.out).mono ?_
        rintro e w38 ⟨rfl, hb⟩
        refine ⟨_, rfl, ?_⟩
        replace BK161 := Aside0.mk (blk_below (kp BK161.out) hb)
        replace BK171 := Aside0.mk (blk_below (kp BK171.out) hb)
        replace BK180 := Aside0.mk (blk_below (kp BK180.out) hb)
        replace HB := Aside0.mk (below_step (bl HB.out) hb)
        (try clear hb)
        (try clear hb2)
        (try clear hk)
        (try clear hi)
        refine hK.out _ _ ⟨(blk_cell BK171.out 0).trans rfl, (blk_cell BK171.out 1).trans rfl, (blk_cell BK171.out 2).trans rfl, (blk_cell BK171.out 3).trans rfl, (blk_cell BK171.out 4).trans rfl, (blk_cell BK171.out 5).trans rfl, (blk_cell BK171.out 6).trans rfl, (blk_cell BK180.out 0).trans rfl, (blk_cell BK180.out 1).trans rfl, (blk_cell BK180.out 2).trans rfl, (blk_cell BK180.out 3).trans rfl, (blk_cell BK180.out 4).trans rfl, (blk_cell BK180.out 5).trans rfl, (blk_cell BK180.out 6).trans rfl, (blk_cell BK180.out 7).trans rfl, (blk_cell BK161.out 0).trans rfl, (blk_cell BK161.out 1).trans rfl, (blk_cell BK161.out 2).trans rfl, (blk_cell BK161.out 3).trans rfl, (blk_cell BK161.out 4).trans rfl, (blk_cell BK161.out 5).trans rfl, (blk_cell BK161.out 6).trans rfl, (blk_cell BK161.out 7).trans rfl, (blk_cell BK161.out 8).trans rfl, (blk_cell BK161.out 9).trans rfl, (blk_cell BK161.out 10).trans rfl, (blk_cell BK161.out 11).trans rfl, (blk_cell BK161.out 12).trans rfl, (blk_cell BK161.out 13).trans rfl⟩ (fun hHeld => ?_)
        clear hK K
        refine norm_ (a' := ?_) ?_ ?_
        rotate_left
        ·show Act.put _ (some 51) _ = _
         simp only [Act.put, List.setIfInBounds_toArray, List.set_cons_zero, List.set_cons_succ, i64_w, i32_w]
         rfl
        refine one_ (i := 30) (N := some 54) #[true, true, true, true, true, true, true, true, true, true, true, true, true, true, true, true, true, true, true, true, true, true, true, true, true, true, true, true, true, true, true, false, false, false, false, false, false, false, false, false, false, false, false, false] rfl rfl (one_of HT_.out (by kernel_rfl)) (by decide) (fun K hK => ?_)
        refine goes_ Tryd.func18 (by kernel_rfl) rfl #[.agg #[.int .i64 t182, .int .i64 t183, .int .i64 t184, .int .i64 t185, .int .i64 t186, .int .i64 t187, .int .i64 t188], .agg #[.int .i64 t189, .int .i64 t190, .int .i64 t191, .int .i64 t192, .int .i64 t193, .int .i64 t194, .int .i64 t195], .int .i64 (Int.tmod a1 9)] (by rfl) rfl rfl (by (try simp only [List.map_toArray, List.map_cons, List.map_nil]); first | done | rfl | (simp only [List.length_drop, List.length_take]; rfl)) ?_
        with_reducible refine (drachmlaw03_tells.calls kj4 t182 t183 t184 t185 t186 t187 t188 t189 t190 t191 t192 t193 t194 t195 (Int.tmod a1 9) true _ (Glob.use hG (by decide) (by repeat (first | (with_reducible first | exact HB.out | exact Below.refl _ _ | apply below_alloc | apply pw_below_drewN | apply below_drew1) | exact HB.out | exact Below.refl _ _))) A20.out).mono ?_
        rintro e w39 ⟨rfl, hb⟩
        refine ⟨_, rfl, ?_⟩
        replace BK161 := Aside0.mk (blk_below (kp BK161.out) hb)
        replace BK171 := Aside0.mk (blk_below (kp BK171.out) hb)
        replace BK180 := Aside0.mk (blk_below (kp BK180.out) hb)
        replace HB := Aside0.mk (below_step (bl HB.out) hb)
        (try clear hb)
        (try clear hb2)
        (try clear hk)
        (try clear hi)
        refine hK.out _ _ ⟨(blk_cell BK171.out 0).trans rfl, (blk_cell BK171.out 1).trans rfl, (blk_cell BK171.out 2).trans rfl, (blk_cell BK171.out 3).trans rfl, (blk_cell BK171.out 4).trans rfl, (blk_cell BK171.out 5).trans rfl, (blk_cell BK171.out 6).trans rfl, (blk_cell BK180.out 0).trans rfl, (blk_cell BK180.out 1).trans rfl, (blk_cell BK180.out 2).trans rfl, (blk_cell BK180.out 3).trans rfl, (blk_cell BK180.out 4).trans rfl, (blk_cell BK180.out 5).trans rfl, (blk_cell BK180.out 6).trans rfl, (blk_cell BK180.out 7).trans rfl, (blk_cell BK161.out 0).trans rfl, (blk_cell BK161.out 1).trans rfl, (blk_cell BK161.out 2).trans rfl, (blk_cell BK161.out 3).trans rfl, (blk_cell BK161.out 4).trans rfl, (blk_cell BK161.out 5).trans rfl, (blk_cell BK161.out 6).trans rfl, (blk_cell BK161.out 7).trans rfl, (blk_cell BK161.out 8).trans rfl, (blk_cell BK161.out 9).trans rfl, (blk_cell BK161.out 10).trans rfl, (blk_cell BK161.out 11).trans rfl, (blk_cell BK161.out 12).trans rfl, (blk_cell BK161.out 13).trans rfl⟩ (fun hHeld => ?_)
        clear hK K
        refine norm_ (a' := ?_) ?_ ?_
        rotate_left
        ·show Act.put _ (some 54) _ = _
         simp only [Act.put, List.setIfInBounds_toArray, List.set_cons_zero, List.set_cons_succ, i64_w, i32_w]
         rfl
        refine pure_ (i := 31) (N := some 55) (v := ?_) (a' := ?_) #[true, true, true, true, true, true, true, true, true, true, true, true, true, true, true, true, true, true, true, true, true, true, true, true, true, true, true, true, true, true, true, true, false, false, false, false, false, false, false, false, false, false, false, false] rfl rfl (any_of HT_.out (by kernel_rfl)) (fun _ _ _ h => h) (Or.inl ⟨by rfl, ?_⟩) ?_ ?_
        rotate_left
        ·intro w'
         go_simp
         first | with_reducible rfl | (rw [if_neg (by simp only [lit_size, List.length_cons, List.length_nil, ByteArray.size_extract, ByteArray.size_append, eq_iff_iff, iff_true, iff_false] at *; omega)])
        rotate_left
        ·simp only [Act.put, List.setIfInBounds_toArray, List.set_cons_zero, List.set_cons_succ, i64_w, i32_w]
         rfl
        refine pure_ (i := 32) (N := some 56) (v := ?_) (a' := ?_) #[true, true, true, true, true, true, true, true, true, true, true, true, true, true, true, true, true, true, true, true, true, true, true, true, true, true, true, true, true, true, true, true, true, false, false, false, false, false, false, false, false, false, false, false] rfl rfl (any_of HT_.out (by kernel_rfl)) (fun _ _ _ h => h) (Or.inl ⟨by rfl, ?_⟩) ?_ ?_
        rotate_left
        ·intro w'
         go_simp
         first | with_reducible rfl | (rw [if_neg (by simp only [lit_size, List.length_cons, List.length_nil, ByteArray.size_extract, ByteArray.size_append, eq_iff_iff, iff_true, iff_false] at *; omega)])
        rotate_left
        ·simp only [Act.put, List.setIfInBounds_toArray, List.set_cons_zero, List.set_cons_succ, i64_w, i32_w]
         rfl
        refine pure_ (i := 33) (N := some 57) (v := ?_) (a' := ?_) #[true, true, true, true, true, true, true, true, true, true, true, true, true, true, true, true, true, true, true, true, true, true, true, true, true, true, true, true, true, true, true, true, true, true, false, false, false, false, false, false, false, false, false, false] rfl rfl (any_of HT_.out (by kernel_rfl)) (fun _ _ _ h => h) (Or.inl ⟨by rfl, ?_⟩) ?_ ?_
        rotate_left
        ·intro w'
         go_simp
         first | with_reducible rfl | (rw [if_neg (by simp only [lit_size, List.length_cons, List.length_nil, ByteArray.size_extract, ByteArray.size_append, eq_iff_iff, iff_true, iff_false] at *; omega)])
        rotate_left
        ·simp only [Act.put, List.setIfInBounds_toArray, List.set_cons_zero, List.set_cons_succ, i64_w, i32_w]
         rfl
        refine pure_ (i := 36) (N := some 60) (v := ?_) (a' := ?_) #[true, true, true, true, true, true, true, true, true, true, true, true, true, true, true, true, true, true, true, true, true, true, true, true, true, true, true, true, true, true, true, true, true, true, false, false, true, false, false, false, false, false, false, false] rfl rfl (any_of HT_.out (by kernel_rfl)) (fun _ _ _ h => h) (Or.inl ⟨by rfl, ?_⟩) ?_ ?_
        rotate_left
        ·intro w'
         go_simp
         first | with_reducible rfl | (rw [if_neg (by simp only [lit_size, List.length_cons, List.length_nil, ByteArray.size_extract, ByteArray.size_append, eq_iff_iff, iff_true, iff_false] at *; omega)])
        rotate_left
        ·simp only [Act.put, List.setIfInBounds_toArray, List.set_cons_zero, List.set_cons_succ, i64_w, i32_w]
         rfl
        refine pure_ (i := 39) (N := some 63) (v := ?_) (a' := ?_) #[true, true, true, true, true, true, true, true, true, true, true, true, true, true, true, true, true, true, true, true, true, true, true, true, true, true, true, true, true, true, true, true, true, true, false, false, true, false, false, true, false, false, false, false] rfl rfl (any_of HT_.out (by kernel_rfl)) (fun _ _ _ h => h) (Or.inl ⟨by rfl, ?_⟩) ?_ ?_
        rotate_left
        ·intro w'
         go_simp
         first | with_reducible rfl | (rw [if_neg (by simp only [lit_size, List.length_cons, List.length_nil, ByteArray.size_extract, ByteArray.size_append, eq_iff_iff, iff_true, iff_false] at *; omega)])
        rotate_left
        ·simp only [Act.put, List.setIfInBounds_toArray, List.set_cons_zero, List.set_cons_succ, i64_w, i32_w]
         rfl
        refine pure_ (i := 40) (N := some 64) (v := ?_) (a' := ?_) #[true, true, true, true, true, true, true, true, true, true, true, true, true, true, true, true, true, true, true, true, true, true, true, true, true, true, true, true, true, true, true, true, true, true, false, false, true, false, false, true, true, false, false, false] rfl rfl (any_of HT_.out (by kernel_rfl)) (fun _ _ _ h => h) (Or.inl ⟨by rfl, ?_⟩) ?_ ?_
        rotate_left
        ·intro w'
         go_simp
         first | with_reducible rfl | (rw [if_neg (by simp only [lit_size, List.length_cons, List.length_nil, ByteArray.size_extract, ByteArray.size_append, eq_iff_iff, iff_true, iff_false] at *; omega)])
        rotate_left
        ·simp only [Act.put, List.setIfInBounds_toArray, List.set_cons_zero, List.set_cons_succ, i64_w, i32_w]
         rfl
        refine take_ (i := 34) (N := some 58) (v := ?_) (a' := ?_) #[true, true, true, true, true, true, true, true, true, true, true, true, true, true, true, true, true, true, true, true, true, true, true, true, true, true, true, true, true, true, true, true, true, true, true, false, true, false, false, true, true, false, false, false] rfl rfl (take_ofW HT_.out HW_.out (by kernel_rfl)) (fun _ _ _ h => h) (Or.inl ⟨by rfl, ?_⟩) hHeld ?_ ?_
        rotate_left
        ·rintro w' ⟨s0, s1, s2, s3, s4, s5, s6, s7, s8, s9, s10, s11, s12, s13, s14, s15, s16, s17, s18, s19, s20, s21, s22, s23, s24, s25, s26, s27, s28⟩
         go_simp
         first | with_reducible rfl | (rw [if_neg (by simp only [lit_size, List.length_cons, List.length_nil, ByteArray.size_extract, ByteArray.size_append, eq_iff_iff, iff_true, iff_false] at *; omega)])
        rotate_left
        ·simp only [Act.put, List.setIfInBounds_toArray, List.set_cons_zero, List.set_cons_succ, i64_w, i32_w]
         rfl
        refine take_ (i := 37) (N := some 61) (v := ?_) (a' := ?_) #[true, true, true, true, true, true, true, true, true, true, true, true, true, true, true, true, true, true, true, true, true, true, true, true, true, true, true, true, true, true, true, true, true, true, true, false, true, true, false, true, true, false, false, false] rfl rfl (take_ofW HT_.out HW_.out (by kernel_rfl)) (fun _ _ _ h => h) (Or.inl ⟨by rfl, ?_⟩) hHeld ?_ ?_
        rotate_left
        ·rintro w' ⟨s0, s1, s2, s3, s4, s5, s6, s7, s8, s9, s10, s11, s12, s13, s14, s15, s16, s17, s18, s19, s20, s21, s22, s23, s24, s25, s26, s27, s28⟩
         go_simp
         first | with_reducible rfl | (rw [if_neg (by simp only [lit_size, List.length_cons, List.length_nil, ByteArray.size_extract, ByteArray.size_append, eq_iff_iff, iff_true, iff_false] at *; omega)])
        rotate_left
        ·simp only [Act.put, List.setIfInBounds_toArray, List.set_cons_zero, List.set_cons_succ, i64_w, i32_w]
         rfl
        refine one_ (i := 35) (N := some 59) #[true, true, true, true, true, true, true, true, true, true, true, true, true, true, true, true, true, true, true, true, true, true, true, true, true, true, true, true, true, true, true, true, true, true, true, true, true, true, false, true, true, false, false, false] rfl rfl (one_of HT_.out (by kernel_rfl)) (by decide) (fun K hK => ?_)
        refine goes_ Tryd.func10 (by kernel_rfl) rfl #[.agg #[.int .i64 a0_0, .int .i64 a0_1, .int .i64 a0_2, .int .i64 a0_3, .int .i64 a0_4, .int .i64 a0_5, .int .i64 a0_6], .int .i64 50] (by rfl) rfl rfl (by (try simp only [List.map_toArray, List.map_cons, List.map_nil]); first | done | rfl | (simp only [List.length_drop, List.length_take]; rfl)) ?_
        with_reducible refine (drachmlaw03_near.calls a0_0 a0_1 a0_2 a0_3 a0_4 a0_5 a0_6 50 t197 t198 t199 t200 t201 t202 t203 _ A22.out).mono ?_
        rintro e w40 ⟨rfl, hb⟩
        refine ⟨_, rfl, ?_⟩
        replace BK161 := Aside0.mk (blk_below (kp BK161.out) hb)
        replace BK171 := Aside0.mk (blk_below (kp BK171.out) hb)
        replace BK180 := Aside0.mk (blk_below (kp BK180.out) hb)
        replace HB := Aside0.mk (below_step (bl HB.out) hb)
        (try clear hb)
        (try clear hb2)
        (try clear hk)
        (try clear hi)
        refine hK.out _ _ ⟨(blk_cell BK171.out 0).trans rfl, (blk_cell BK171.out 1).trans rfl, (blk_cell BK171.out 2).trans rfl, (blk_cell BK171.out 3).trans rfl, (blk_cell BK171.out 4).trans rfl, (blk_cell BK171.out 5).trans rfl, (blk_cell BK171.out 6).trans rfl, (blk_cell BK180.out 0).trans rfl, (blk_cell BK180.out 1).trans rfl, (blk_cell BK180.out 2).trans rfl, (blk_cell BK180.out 3).trans rfl, (blk_cell BK180.out 4).trans rfl, (blk_cell BK180.out 5).trans rfl, (blk_cell BK180.out 6).trans rfl, (blk_cell BK180.out 7).trans rfl, (blk_cell BK161.out 0).trans rfl, (blk_cell BK161.out 1).trans rfl, (blk_cell BK161.out 2).trans rfl, (blk_cell BK161.out 3).trans rfl, (blk_cell BK161.out 4).trans rfl, (blk_cell BK161.out 5).trans rfl, (blk_cell BK161.out 6).trans rfl, (blk_cell BK161.out 7).trans rfl, (blk_cell BK161.out 8).trans rfl, (blk_cell BK161.out 9).trans rfl, (blk_cell BK161.out 10).trans rfl, (blk_cell BK161.out 11).trans rfl, (blk_cell BK161.out 12).trans rfl, (blk_cell BK161.out 13).trans rfl⟩ (fun hHeld => ?_)
        clear hK K
        refine norm_ (a' := ?_) ?_ ?_
        rotate_left
        ·show Act.put _ (some 59) _ = _
         simp only [Act.put, List.setIfInBounds_toArray, List.set_cons_zero, List.set_cons_succ, i64_w, i32_w]
         rfl
        refine one_ (i := 38) (N := some 62) #[true, true, true, true, true, true, true, true, true, true, true, true, true, true, true, true, true, true, true, true, true, true, true, true, true, true, true, true, true, true, true, true, true, true, true, true, true, true, true, true, true, false, false, false] rfl rfl (one_of HT_.out (by kernel_rfl)) (by decide) (fun K hK => ?_)
        refine goes_ Tryd.func10 (by kernel_rfl) rfl #[.agg #[.int .i64 a0_7, .int .i64 a0_8, .int .i64 a0_9, .int .i64 a0_10, .int .i64 a0_11, .int .i64 a0_12, .int .i64 a0_13], .int .i64 49] (by rfl) rfl rfl (by (try simp only [List.map_toArray, List.map_cons, List.map_nil]); first | done | rfl | (simp only [List.length_drop, List.length_take]; rfl)) ?_
        with_reducible refine (drachmlaw03_near.calls a0_7 a0_8 a0_9 a0_10 a0_11 a0_12 a0_13 49 t204 t205 t206 t207 t208 t209 t210 _ A23.out).mono ?_
        rintro e w41 ⟨rfl, hb⟩
        refine ⟨_, rfl, ?_⟩
        replace BK161 := Aside0.mk (blk_below (kp BK161.out) hb)
        replace BK171 := Aside0.mk (blk_below (kp BK171.out) hb)
        replace BK180 := Aside0.mk (blk_below (kp BK180.out) hb)
        replace HB := Aside0.mk (below_step (bl HB.out) hb)
        (try clear hb)
        (try clear hb2)
        (try clear hk)
        (try clear hi)
        refine hK.out _ _ ⟨(blk_cell BK171.out 0).trans rfl, (blk_cell BK171.out 1).trans rfl, (blk_cell BK171.out 2).trans rfl, (blk_cell BK171.out 3).trans rfl, (blk_cell BK171.out 4).trans rfl, (blk_cell BK171.out 5).trans rfl, (blk_cell BK171.out 6).trans rfl, (blk_cell BK180.out 0).trans rfl, (blk_cell BK180.out 1).trans rfl, (blk_cell BK180.out 2).trans rfl, (blk_cell BK180.out 3).trans rfl, (blk_cell BK180.out 4).trans rfl, (blk_cell BK180.out 5).trans rfl, (blk_cell BK180.out 6).trans rfl, (blk_cell BK180.out 7).trans rfl, (blk_cell BK161.out 0).trans rfl, (blk_cell BK161.out 1).trans rfl, (blk_cell BK161.out 2).trans rfl, (blk_cell BK161.out 3).trans rfl, (blk_cell BK161.out 4).trans rfl, (blk_cell BK161.out 5).trans rfl, (blk_cell BK161.out 6).trans rfl, (blk_cell BK161.out 7).trans rfl, (blk_cell BK161.out 8).trans rfl, (blk_cell BK161.out 9).trans rfl, (blk_cell BK161.out 10).trans rfl, (blk_cell BK161.out 11).trans rfl, (blk_cell BK161.out 12).trans rfl, (blk_cell BK161.out 13).trans rfl⟩ (fun hHeld => ?_)
        clear hK K
        refine norm_ (a' := ?_) ?_ ?_
        rotate_left
        ·show Act.put _ (some 62) _ = _
         simp only [Act.put, List.setIfInBounds_toArray, List.set_cons_zero, List.set_cons_succ, i64_w, i32_w]
         rfl
        refine one_ (i := 41) (N := some 65) #[true, true, true, true, true, true, true, true, true, true, true, true, true, true, true, true, true, true, true, true, true, true, true, true, true, true, true, true, true, true, true, true, true, true, true, true, true, true, true, true, true, true, false, false] rfl rfl (one_of HT_.out (by kernel_rfl)) (by decide) (fun K hK => ?_)
        refine goes_ Tryd.func18 (by kernel_rfl) rfl #[.agg #[.int .i64 t197, .int .i64 t198, .int .i64 t199, .int .i64 t200, .int .i64 t201, .int .i64 t202, .int .i64 t203], .agg #[.int .i64 t204, .int .i64 t205, .int .i64 t206, .int .i64 t207, .int .i64 t208, .int .i64 t209, .int .i64 t210], .int .i64 (Int.tmod a1 3)] (by rfl) rfl rfl (by (try simp only [List.map_toArray, List.map_cons, List.map_nil]); first | done | rfl | (simp only [List.length_drop, List.length_take]; rfl)) ?_
        with_reducible refine (drachmlaw03_tells.calls kj4 t197 t198 t199 t200 t201 t202 t203 t204 t205 t206 t207 t208 t209 t210 (Int.tmod a1 3) t211 _ (Glob.use hG (by decide) (by repeat (first | (with_reducible first | exact HB.out | exact Below.refl _ _ | apply below_alloc | apply pw_below_drewN | apply below_drew1) | exact HB.out | exact Below.refl _ _))) A24.out).mono ?_
        rintro e w42 ⟨rfl, hb⟩
        refine ⟨_, rfl, ?_⟩
        replace BK161 := Aside0.mk (blk_below (kp BK161.out) hb)
        replace BK171 := Aside0.mk (blk_below (kp BK171.out) hb)
        replace BK180 := Aside0.mk (blk_below (kp BK180.out) hb)
        replace HB := Aside0.mk (below_step (bl HB.out) hb)
        (try clear hb)
        (try clear hb2)
        (try clear hk)
        (try clear hi)
        refine hK.out _ _ ⟨(blk_cell BK171.out 0).trans rfl, (blk_cell BK171.out 1).trans rfl, (blk_cell BK171.out 2).trans rfl, (blk_cell BK171.out 3).trans rfl, (blk_cell BK171.out 4).trans rfl, (blk_cell BK171.out 5).trans rfl, (blk_cell BK171.out 6).trans rfl, (blk_cell BK180.out 0).trans rfl, (blk_cell BK180.out 1).trans rfl, (blk_cell BK180.out 2).trans rfl, (blk_cell BK180.out 3).trans rfl, (blk_cell BK180.out 4).trans rfl, (blk_cell BK180.out 5).trans rfl, (blk_cell BK180.out 6).trans rfl, (blk_cell BK180.out 7).trans rfl, (blk_cell BK161.out 0).trans rfl, (blk_cell BK161.out 1).trans rfl, (blk_cell BK161.out 2).trans rfl, (blk_cell BK161.out 3).trans rfl, (blk_cell BK161.out 4).trans rfl, (blk_cell BK161.out 5).trans rfl, (blk_cell BK161.out 6).trans rfl, (blk_cell BK161.out 7).trans rfl, (blk_cell BK161.out 8).trans rfl, (blk_cell BK161.out 9).trans rfl, (blk_cell BK161.out 10).trans rfl, (blk_cell BK161.out 11).trans rfl, (blk_cell BK161.out 12).trans rfl, (blk_cell BK161.out 13).trans rfl⟩ (fun hHeld => ?_)
        clear hK K
        refine norm_ (a' := ?_) ?_ ?_
        rotate_left
        ·show Act.put _ (some 65) _ = _
         simp only [Act.put, List.setIfInBounds_toArray, List.set_cons_zero, List.set_cons_succ, i64_w, i32_w]
         rfl
        refine pure_ (i := 42) (N := some 66) (v := ?_) (a' := ?_) #[true, true, true, true, true, true, true, true, true, true, true, true, true, true, true, true, true, true, true, true, true, true, true, true, true, true, true, true, true, true, true, true, true, true, true, true, true, true, true, true, true, true, true, false] rfl rfl (any_of HT_.out (by kernel_rfl)) (fun _ _ _ h => h) (Or.inl ⟨by rfl, ?_⟩) ?_ ?_
        rotate_left
        ·intro w'
         go_simp
         first | with_reducible rfl | (rw [if_neg (by simp only [lit_size, List.length_cons, List.length_nil, ByteArray.size_extract, ByteArray.size_append, eq_iff_iff, iff_true, iff_false] at *; omega)])
        rotate_left
        ·simp only [Act.put, List.setIfInBounds_toArray, List.set_cons_zero, List.set_cons_succ, i64_w, i32_w]
         rfl
        refine pure_ (i := 43) (N := some 6) (v := ?_) (a' := ?_) #[true, true, true, true, true, true, true, true, true, true, true, true, true, true, true, true, true, true, true, true, true, true, true, true, true, true, true, true, true, true, true, true, true, true, true, true, true, true, true, true, true, true, true, true] rfl rfl (any_of HT_.out (by kernel_rfl)) (fun _ _ _ h => h) (Or.inl ⟨by rfl, ?_⟩) ?_ ?_
        rotate_left
        ·intro w'
         go_simp
         first | with_reducible rfl | (rw [if_neg (by simp only [lit_size, List.length_cons, List.length_nil, ByteArray.size_extract, ByteArray.size_append, eq_iff_iff, iff_true, iff_false] at *; omega)])
        rotate_left
        ·simp only [Act.put, List.setIfInBounds_toArray, List.set_cons_zero, List.set_cons_succ, i64_w, i32_w]
         rfl
        refine done_ (done_of HT_.out (by kernel_rfl)) ?_
        try go_wp2
        go_ret
        exact ⟨by first | rfl | (simp [errW_none, errW_some] <;> rfl) | (simp [*, errW_none, errW_some] <;> rfl), bl HB.out⟩
       ·replace c21 := Bool.eq_false_iff.mpr c21
        subst c21
        have H1 : (none) = some r := by rw [if_neg (show ¬ (false = true) by decide)] at H; exact H
        clear H
        have H := H1
        clear H1
        exact absurd H (by simp)
      ·replace c17 := Bool.eq_false_iff.mpr c17
       subst c17
       have H1 : (none) = some r := by rw [if_neg (show ¬ (false = true) by decide)] at H; exact H
       clear H
       have H := H1
       clear H1
       exact absurd H (by simp)
     ·rw [if_neg c15] at H
      exact absurd H (by simp)
    ·rw [if_neg c14] at H
     exact absurd H (by simp)
   ·replace c13 := Bool.eq_false_iff.mpr c13
    subst c13
    have H1 : (none) = some r := by rw [if_neg (show ¬ (false = true) by decide)] at H; exact H
    clear H
    have H := H1
    clear H1
    exact absurd H (by simp)

/-- THE ONE PURE STATEMENT of drachmlaw03_DimsTells: yours. -/
def drachmlaw03_DimsTells.Pure : Prop := ∀ (a0_0 : Int) (a0_1 : Int) (a0_2 : Int) (a0_3 : Int) (a0_4 : Int) (a0_5 : Int) (a0_6 : Int) (a0_7 : Int) (a0_8 : Int) (a0_9 : Int) (a0_10 : Int) (a0_11 : Int) (a0_12 : Int) (a0_13 : Int) (a1 : Int) (a2 : ByteArray), (Lit.int .i64 a0_0).wf = true → (Lit.int .i64 a0_1).wf = true → (Lit.int .i64 a0_2).wf = true → (Lit.int .i64 a0_3).wf = true → (Lit.int .i64 a0_4).wf = true → (Lit.int .i64 a0_5).wf = true → (Lit.int .i64 a0_6).wf = true → (Lit.int .i64 a0_7).wf = true → (Lit.int .i64 a0_8).wf = true → (Lit.int .i64 a0_9).wf = true → (Lit.int .i64 a0_10).wf = true → (Lit.int .i64 a0_11).wf = true → (Lit.int .i64 a0_12).wf = true → (Lit.int .i64 a0_13).wf = true → (Lit.int .i64 a1).wf = true → a2.size ≤ 140737488351232 → ∃ k, drachmlaw03_DimsTells.f k a0_0 a0_1 a0_2 a0_3 a0_4 a0_5 a0_6 a0_7 a0_8 a0_9 a0_10 a0_11 a0_12 a0_13 a1 a2 = some true
theorem drachmlaw03_DimsTells.walk (P : drachmlaw03_DimsTells.Pure) (a0_0 : Int) (a0_1 : Int) (a0_2 : Int) (a0_3 : Int) (a0_4 : Int) (a0_5 : Int) (a0_6 : Int) (a0_7 : Int) (a0_8 : Int) (a0_9 : Int) (a0_10 : Int) (a0_11 : Int) (a0_12 : Int) (a0_13 : Int) (a1 : Int) (a2 : ByteArray) (w : World) (hG : Glob [1, 2, 3] w) (w0_0 : (Lit.int .i64 a0_0).wf = true) (w0_1 : (Lit.int .i64 a0_1).wf = true) (w0_2 : (Lit.int .i64 a0_2).wf = true) (w0_3 : (Lit.int .i64 a0_3).wf = true) (w0_4 : (Lit.int .i64 a0_4).wf = true) (w0_5 : (Lit.int .i64 a0_5).wf = true) (w0_6 : (Lit.int .i64 a0_6).wf = true) (w0_7 : (Lit.int .i64 a0_7).wf = true) (w0_8 : (Lit.int .i64 a0_8).wf = true) (w0_9 : (Lit.int .i64 a0_9).wf = true) (w0_10 : (Lit.int .i64 a0_10).wf = true) (w0_11 : (Lit.int .i64 a0_11).wf = true) (w0_12 : (Lit.int .i64 a0_12).wf = true) (w0_13 : (Lit.int .i64 a0_13).wf = true) (w1 : (Lit.int .i64 a1).wf = true) (w2 : a2.size ≤ 140737488351232) :
  Calls Tryd.prog 6 #[.agg #[.int .i64 a0_0, .int .i64 a0_1, .int .i64 a0_2, .int .i64 a0_3, .int .i64 a0_4, .int .i64 a0_5, .int .i64 a0_6, .int .i64 a0_7, .int .i64 a0_8, .int .i64 a0_9, .int .i64 a0_10, .int .i64 a0_11, .int .i64 a0_12, .int .i64 a0_13], .int .i64 a1, .string a2] w fun e w' => e = .returned (.bool true) ∧ Below w.heap.size w w' := by
 obtain ⟨k, h⟩ := P a0_0 a0_1 a0_2 a0_3 a0_4 a0_5 a0_6 a0_7 a0_8 a0_9 a0_10 a0_11 a0_12 a0_13 a1 a2 w0_0 w0_1 w0_2 w0_3 w0_4 w0_5 w0_6 w0_7 w0_8 w0_9 w0_10 w0_11 w0_12 w0_13 w1 w2
 refine (drachmlaw03_DimsTells.calls k a0_0 a0_1 a0_2 a0_3 a0_4 a0_5 a0_6 a0_7 a0_8 a0_9 a0_10 a0_11 a0_12 a0_13 a1 a2 true w hG h).mono ?_
 rintro e w' ⟨rfl, hd⟩
 exact ⟨rfl, hd⟩

end Go.Proofs.YtclpbnfcajbmkaaDoor.PDimsTells
