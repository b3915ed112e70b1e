/- Printed by a program of this session (wip/tools/prt.py) out of the translation: plain functions, and that the calls come to just them. No conditions beyond those that stand in each theorem. -/
import Derived.Test.YtnndaackjgnhhaaDoorPBx0
import Derived.Test.YtnndaackjgnhhaaDoorPBx2
namespace Go.Proofs.YtnndaackjgnhhaaDoor.PB
open Go.Proofs.YtnndaackjgnhhaaDoor.Sq Go.RowKit Go.Proofs.YtnndaackjgnhhaaDoorW.PrintWords Go.Proofs.YtnndaackjgnhhaaDoorW.PrintLast Go.Proofs.YtnndaackjgnhhaaDoorW.PrintMore
attribute [local go_sem] max2_int min2_int max_two min_two max_three min_three max_four min_four   -- for this text's walks alone
set_option linter.unusedVariables false
set_option linter.unusedSimpArgs false

/-! ### drachmref02_times: function 56 -/
def drachmref02_times.f (k : Nat) (a0_0 : Int) (a0_1 : Int) (a0_2 : Int) (a0_3 : Int) (a0_4 : Int) (a1_0 : Int) (a1_1 : Int) (a1_2 : Int) (a1_3 : Int) (a1_4 : Int) (a2 : Int) : Option (Int × Int × Int × Int) := (drachmref01_Gcd.f k a0_1 a1_2).bind fun t172 => ((drachmref01_Gcd.f k a1_1 a0_2).bind fun t173 => (if t172 = 0 then (none) else (if t173 = 0 then (none) else ((drachmref01_Mul.f k (wrap64 (Int.tdiv a0_1 t172)) (wrap64 (Int.tdiv a1_1 t173))).bind fun bt174 => ((drachmref01_Mul.f k (wrap64 (Int.tdiv a0_2 t173)) (wrap64 (Int.tdiv a1_2 t172))).bind fun bt177 => (if bt174.2 = true then (if bt177.2 = true then ((drachmref02_form.f k (wrap64 (a0_0 * a1_0)) bt174.1 bt177.1 (wrap64 (a0_3 + a1_3)) (wrap64 (a0_4 + a1_4)) a2).bind fun bt180 => (some (bt180.1, bt180.2.1, bt180.2.2.1, bt180.2.2.2))) else (some (0, 0, 0, 10))) else (some (0, 0, 0, 10))))))))
theorem drachmref02_times.mono : ∀ a0 a1 a2 a3 a4 a5 a6 a7 a8 a9 a10 k, LeO (drachmref02_times.f k a0 a1 a2 a3 a4 a5 a6 a7 a8 a9 a10) (drachmref02_times.f (k + 1) a0 a1 a2 a3 a4 a5 a6 a7 a8 a9 a10) := by
 intro a0 a1 a2 a3 a4 a5 a6 a7 a8 a9 a10 k
 unfold drachmref02_times.f
 repeat' first
   | (with_reducible exact drachmref01_Gcd.mono _ _ _)
   | (with_reducible exact drachmref01_Mul.mono _ _ _)
   | (with_reducible exact drachmref02_form.mono _ _ _ _ _ _ _)
   | (with_reducible exact LeO.refl _)
   | (with_reducible exact LeO.none _)
   | (with_reducible refine LeO.ite ?_ ?_)
   | (with_reducible refine LeO.bind ?_ (fun _ => ?_))
   | exact drachmref01_Gcd.mono _ _ _
   | exact drachmref01_Mul.mono _ _ _
   | exact drachmref02_form.mono _ _ _ _ _ _ _
   | exact LeO.none _
   | refine LeO.ite ?_ ?_
   | refine LeO.bind ?_ (fun _ => ?_)
def drachmref02_times.T3 : Bool × List (List Nat × List Nat) := (true, [([], []), ([0], [0]), ([], []), ([1, 2], [1, 2]), ([], []), ([4], [4]), ([], []), ([5, 6], [5, 6]), ([3, 7], [3, 7]), ([], []), ([9, 8, 8, 0, 1, 2, 3, 4, 5, 6, 7, 8, 9], [8, 9])])
def drachmref02_times.B3 : List Nat := [0, 1, 0, 7, 0, 16, 0, 112, 255, 0, 1023]
theorem drachmref02_times.tab3 : rtab .any (opsOf Tryd.f56 3) = drachmref02_times.T3 := by kernel_rfl
theorem drachmref02_times.bits3 : waitsOk drachmref02_times.T3.2 drachmref02_times.B3 = true := by kernel_rfl
def drachmref02_times.T4 : Bool × List (List Nat × List Nat) := (true, [([], []), ([0], [0]), ([], []), ([1, 2], [1, 2]), ([], []), ([4], [4]), ([], []), ([5, 6], [5, 6]), ([3, 7], [3, 7]), ([], []), ([9, 8, 8, 0, 1, 2, 3, 4, 5, 6, 7, 8, 9], [8, 9])])
def drachmref02_times.B4 : List Nat := [0, 1, 0, 7, 0, 16, 0, 112, 255, 0, 1023]
theorem drachmref02_times.tab4 : rtab .any (opsOf Tryd.f56 4) = drachmref02_times.T4 := by kernel_rfl
theorem drachmref02_times.bits4 : waitsOk drachmref02_times.T4.2 drachmref02_times.B4 = true := by kernel_rfl
set_option maxHeartbeats 8000000 in
set_option maxRecDepth 100000 in
theorem drachmref02_times.calls (k : Nat) (a0_0 : Int) (a0_1 : Int) (a0_2 : Int) (a0_3 : Int) (a0_4 : Int) (a1_0 : Int) (a1_1 : Int) (a1_2 : Int) (a1_3 : Int) (a1_4 : Int) (a2 : Int) (r1 : Int) (r2 : Int) (r3 : Int) (r4 : Int) (w : World) (h : drachmref02_times.f k a0_0 a0_1 a0_2 a0_3 a0_4 a1_0 a1_1 a1_2 a1_3 a1_4 a2 = some (r1, r2, r3, r4)) :
  Calls Tryd.prog 56 #[.agg #[.int .i64 a0_0, .int .i64 a0_1, .int .i64 a0_2, .int .i64 a0_3, .int .i64 a0_4], .agg #[.int .i64 a1_0, .int .i64 a1_1, .int .i64 a1_2, .int .i64 a1_3, .int .i64 a1_4], .int .i64 a2] w fun e w' => e = .returned (.agg #[.int .i64 r1, .int .i64 r2, .int .i64 r3, .int .i64 r4]) ∧ Below w.heap.size w w' := by
 have hu60 := Tryd.underlying60
 have hu30 := Tryd.underlying30
 have hu89 := Tryd.underlying89
 have HB := Aside0.mk (Below.refl w.heap.size w)
 have H : ((drachmref01_Gcd.f k a0_1 a1_2).bind fun t172 => ((drachmref01_Gcd.f k a1_1 a0_2).bind fun t173 => (if t172 = 0 then (none) else (if t173 = 0 then (none) else ((drachmref01_Mul.f k (wrap64 (Int.tdiv a0_1 t172)) (wrap64 (Int.tdiv a1_1 t173))).bind fun bt174 => ((drachmref01_Mul.f k (wrap64 (Int.tdiv a0_2 t173)) (wrap64 (Int.tdiv a1_2 t172))).bind fun bt177 => (if bt174.2 = true then (if bt177.2 = true then ((drachmref02_form.f k (wrap64 (a0_0 * a1_0)) bt174.1 bt177.1 (wrap64 (a0_3 + a1_3)) (wrap64 (a0_4 + a1_4)) a2).bind fun bt180 => (some (bt180.1, bt180.2.1, bt180.2.2.1, bt180.2.2.2))) else (some (0, 0, 0, 10))) else (some (0, 0, 0, 10))))))))) = some (r1, r2, r3, r4) := h
 clear h
 replace H := Option.bind_eq_some_iff.mp H
 obtain ⟨t172, A40, H⟩ := H
 replace H : ((drachmref01_Gcd.f k a1_1 a0_2).bind fun t173 => (if t172 = 0 then (none) else (if t173 = 0 then (none) else ((drachmref01_Mul.f k (wrap64 (Int.tdiv a0_1 t172)) (wrap64 (Int.tdiv a1_1 t173))).bind fun bt174 => ((drachmref01_Mul.f k (wrap64 (Int.tdiv a0_2 t173)) (wrap64 (Int.tdiv a1_2 t172))).bind fun bt177 => (if bt174.2 = true then (if bt177.2 = true then ((drachmref02_form.f k (wrap64 (a0_0 * a1_0)) bt174.1 bt177.1 (wrap64 (a0_3 + a1_3)) (wrap64 (a0_4 + a1_4)) a2).bind fun bt180 => (some (bt180.1, bt180.2.1, bt180.2.2.1, bt180.2.2.2))) else (some (0, 0, 0, 10))) else (some (0, 0, 0, 10)))))))) = some (r1, r2, r3, r4) := H
 have A4 := Aside0.mk A40
 clear A40
 replace H := Option.bind_eq_some_iff.mp H
 obtain ⟨t173, A50, H⟩ := H
 replace H : (if t172 = 0 then (none) else (if t173 = 0 then (none) else ((drachmref01_Mul.f k (wrap64 (Int.tdiv a0_1 t172)) (wrap64 (Int.tdiv a1_1 t173))).bind fun bt174 => ((drachmref01_Mul.f k (wrap64 (Int.tdiv a0_2 t173)) (wrap64 (Int.tdiv a1_2 t172))).bind fun bt177 => (if bt174.2 = true then (if bt177.2 = true then ((drachmref02_form.f k (wrap64 (a0_0 * a1_0)) bt174.1 bt177.1 (wrap64 (a0_3 + a1_3)) (wrap64 (a0_4 + a1_4)) a2).bind fun bt180 => (some (bt180.1, bt180.2.1, bt180.2.2.1, bt180.2.2.2))) else (some (0, 0, 0, 10))) else (some (0, 0, 0, 10))))))) = some (r1, r2, r3, r4) := H
 have A5 := Aside0.mk A50
 clear A50
 by_cases c6 : t172 = 0
 ·rw [if_pos c6] at H
  exact absurd H (by simp)
 ·rw [if_neg c6] at H
  have c6b0 : (t172 == 0) = false := beq_eq_false_iff_ne.mpr c6
  have c6b1 : (t172 != 0) = true := bne_iff_ne.mpr c6
  by_cases c7 : t173 = 0
  ·rw [if_pos c7] at H
   exact absurd H (by simp)
  ·rw [if_neg c7] at H
   have c7b0 : (t173 == 0) = false := beq_eq_false_iff_ne.mpr c7
   have c7b1 : (t173 != 0) = true := bne_iff_ne.mpr c7
   replace H := Option.bind_eq_some_iff.mp H
   obtain ⟨⟨t174, t175⟩, A80, H⟩ := H
   replace H : ((drachmref01_Mul.f k (wrap64 (Int.tdiv a0_2 t173)) (wrap64 (Int.tdiv a1_2 t172))).bind fun bt177 => (if t175 = true then (if bt177.2 = true then ((drachmref02_form.f k (wrap64 (a0_0 * a1_0)) t174 bt177.1 (wrap64 (a0_3 + a1_3)) (wrap64 (a0_4 + a1_4)) a2).bind fun bt180 => (some (bt180.1, bt180.2.1, bt180.2.2.1, bt180.2.2.2))) else (some (0, 0, 0, 10))) else (some (0, 0, 0, 10)))) = some (r1, r2, r3, r4) := H
   have A8 := Aside0.mk A80
   clear A80
   replace H := Option.bind_eq_some_iff.mp H
   obtain ⟨⟨t177, t178⟩, A90, H⟩ := H
   replace H : (if t175 = true then (if t178 = true then ((drachmref02_form.f k (wrap64 (a0_0 * a1_0)) t174 t177 (wrap64 (a0_3 + a1_3)) (wrap64 (a0_4 + a1_4)) a2).bind fun bt180 => (some (bt180.1, bt180.2.1, bt180.2.2.1, bt180.2.2.2))) else (some (0, 0, 0, 10))) else (some (0, 0, 0, 10))) = some (r1, r2, r3, r4) := H
   have A9 := Aside0.mk A90
   clear A90
   by_cases c10 : t175 = true
   ·subst c10
    have H1 : (if t178 = true then ((drachmref02_form.f k (wrap64 (a0_0 * a1_0)) t174 t177 (wrap64 (a0_3 + a1_3)) (wrap64 (a0_4 + a1_4)) a2).bind fun bt180 => (some (bt180.1, bt180.2.1, bt180.2.2.1, bt180.2.2.2))) else (some (0, 0, 0, 10))) = some (r1, r2, r3, r4) := by rw [if_pos rfl] at H; exact H
    clear H
    have H := H1
    clear H1
    by_cases c11 : t178 = true
    ·subst c11
     have H1 : ((drachmref02_form.f k (wrap64 (a0_0 * a1_0)) t174 t177 (wrap64 (a0_3 + a1_3)) (wrap64 (a0_4 + a1_4)) a2).bind fun bt180 => (some (bt180.1, bt180.2.1, bt180.2.2.1, bt180.2.2.2))) = some (r1, r2, r3, r4) := by rw [if_pos rfl] at H; exact H
     clear H
     have H := H1
     clear H1
     replace H := Option.bind_eq_some_iff.mp H
     obtain ⟨⟨t180, t181, t182, t183⟩, A120, H⟩ := H
     replace H : (some (t180, t181, t182, t183)) = some (r1, r2, r3, r4) := H
     have A12 := Aside0.mk A120
     clear A120
     simp only [Option.some.injEq, Prod.mk.injEq] at H
     obtain ⟨rfl, rfl, rfl, rfl⟩ := H
     go_enter Tryd.func56, Tryd.ntmps56
     try go_wp2_with (first | ((with_reducible refine gate_dst (N := 3) rfl ?_); refine box_event ?hg (N := 3) ?hd (cs := #[.int .i64 a0_0, .int .i64 a0_1, .int .i64 a0_2, .int .i64 a0_3, .int .i64 a0_4]) (t := 60) ?hr ?_; (case hd => rfl); (case hg => rfl); (case hr => first | (go_simp; done) | (go_simp; rfl)); intro gb169 hg w13 hbox hb; have n0_ := Aside0.mk (below_step (bl HB.out) hb); have n1_ := Aside0.mk (hbox); have n2_ := Aside0.mk ((by rw [hg]; exact (below_size (bl HB.out)) : w.heap.size ≤ gb169)); have n3_ := Aside0.mk ((by rw [hg]; exact (below_size (bl HB.out)) : w.heap.size ≤ gb169)); clear HB; have HB := n0_; have BK169 := n1_; have GW169 := n2_; have GE169 := n3_; clear n0_ n1_ n2_ n3_; clear hb hbox hg) | ((with_reducible refine gate_dst (N := 4) rfl ?_); refine box_event ?hg (N := 4) ?hd (cs := #[.int .i64 a1_0, .int .i64 a1_1, .int .i64 a1_2, .int .i64 a1_3, .int .i64 a1_4]) (t := 60) ?hr ?_; (case hd => rfl); (case hg => rfl); (case hr => first | (go_simp; done) | (go_simp; rfl)); intro gb170 hg w14 hbox hb; have n0_ := Aside0.mk (blk_below (kp BK169.out) hb); have n1_ := Aside0.mk (below_step (bl HB.out) hb); have n2_ := Aside0.mk (hbox); have n3_ := Aside0.mk ((by rw [hg]; exact (below_size (bl HB.out)) : w.heap.size ≤ gb170)); have n4_ := Aside0.mk ((by rw [hg]; exact (below_size (bl HB.out)) : w.heap.size ≤ gb170)); have n5_ := Aside0.mk ((by rw [hg]; exact Nat.ne_of_lt (blk_lt (kp BK169.out)) : gb169 ≠ gb170)); have n6_ := Aside0.mk ((by rw [hg]; exact Nat.ne_of_gt (blk_lt (kp BK169.out)) : gb170 ≠ gb169)); clear BK169; clear HB; have BK169 := n0_; have HB := n1_; have BK170 := n2_; have GW170 := n3_; have GE170 := n4_; have NB169_170 := n5_; have NB170_169 := n6_; clear n0_ n1_ n2_ n3_ n4_ n5_ n6_; clear hb hbox hg) | ((with_reducible refine gate_dst (N := 6) rfl ?_); refine box_event ?hg (N := 6) ?hd (cs := #[.int .i64 0, .int .i64 0, .int .i64 0, .int .i64 0]) (t := 30) ?hr ?_; (case hd => rfl); (case hg => rfl); (case hr => first | (go_simp; done) | (go_simp; rfl)); intro gb171 hg w15 hbox hb; have n0_ := Aside0.mk (blk_below (kp BK169.out) hb); have n1_ := Aside0.mk (blk_below (kp BK170.out) hb); have n2_ := Aside0.mk (below_step (bl HB.out) hb); have n3_ := Aside0.mk (hbox); have n4_ := Aside0.mk ((by rw [hg]; exact (below_size (bl HB.out)) : w.heap.size ≤ gb171)); have n5_ := Aside0.mk ((by rw [hg]; exact (below_size (bl HB.out)) : w.heap.size ≤ gb171)); have n6_ := Aside0.mk ((by rw [hg]; exact Nat.ne_of_lt (blk_lt (kp BK169.out)) : gb169 ≠ gb171)); have n7_ := Aside0.mk ((by rw [hg]; exact Nat.ne_of_gt (blk_lt (kp BK169.out)) : gb171 ≠ gb169)); have n8_ := Aside0.mk ((by rw [hg]; exact Nat.ne_of_lt (blk_lt (kp BK170.out)) : gb170 ≠ gb171)); have n9_ := Aside0.mk ((by rw [hg]; exact Nat.ne_of_gt (blk_lt (kp BK170.out)) : gb171 ≠ gb170)); clear BK169; clear BK170; clear HB; have BK169 := n0_; have BK170 := n1_; have HB := n2_; have BK171 := n3_; have GW171 := n4_; have GE171 := n5_; have NB169_171 := n6_; have NB171_169 := n7_; have NB170_171 := n8_; have NB171_170 := n9_; clear n0_ n1_ n2_ n3_ n4_ n5_ n6_ n7_ n8_ n9_; clear hb hbox hg; have hnb16 := NB169_170.out; have hnc16 := NB170_169.out; have hnb17 := NB169_171.out; have hnc17 := NB171_169.out; obtain ⟨hcz18_0, hcz18_1, hcz18_2, hcz18_3, hcz18_4⟩ := hc5 BK169.out; obtain ⟨hfz18_0, hfz18_1, hfz18_2, hfz18_3, hfz18_4⟩ := hf5 BK169.out; have hnb19 := NB170_171.out; have hnc19 := NB171_170.out; obtain ⟨hcz20_0, hcz20_1, hcz20_2, hcz20_3, hcz20_4⟩ := hc5 BK170.out; obtain ⟨hfz20_0, hfz20_1, hfz20_2, hfz20_3, hfz20_4⟩ := hf5 BK170.out) | ((with_reducible refine gate_callee (f := 32) rfl ?_); refine goesL_ (some 15) rfl rfl Tryd.func32 (by kernel_rfl) rfl #[.int .i64 a0_1, .int .i64 a1_2] rfl (by (try simp only [List.map_toArray, List.map_cons, List.map_nil]); first | done | rfl | (simp only [List.length_drop, List.length_take]; rfl)) ?_; (with_reducible refine (drachmref01_Gcd.calls k a0_1 a1_2 t172 _ A4.out).mono ?_); rintro e w' ⟨rfl, ⟨nd, rfl⟩⟩; refine ⟨_, rfl, ?_⟩; (try (rw [drewN_self w15]; generalize hq_ : World.drewN w15 _ = w15; replace BK169 := Aside0.mk (kq hq_ BK169.out); replace BK170 := Aside0.mk (kq hq_ BK170.out); replace BK171 := Aside0.mk (kq hq_ BK171.out); replace HB := Aside0.mk (bq hq_ HB.out); clear hq_)); obtain ⟨hcz21_0, hcz21_1, hcz21_2, hcz21_3, hcz21_4⟩ := hc5 BK170.out; obtain ⟨hfz21_0, hfz21_1, hfz21_2, hfz21_3, hfz21_4⟩ := hf5 BK170.out; obtain ⟨hcz22_0, hcz22_1, hcz22_2, hcz22_3, hcz22_4⟩ := hc5 BK169.out; obtain ⟨hfz22_0, hfz22_1, hfz22_2, hfz22_3, hfz22_4⟩ := hf5 BK169.out) | ((with_reducible refine gate_callee (f := 32) rfl ?_); refine goesL_ (some 20) rfl rfl Tryd.func32 (by kernel_rfl) rfl #[.int .i64 a1_1, .int .i64 a0_2] rfl (by (try simp only [List.map_toArray, List.map_cons, List.map_nil]); first | done | rfl | (simp only [List.length_drop, List.length_take]; rfl)) ?_; (with_reducible refine (drachmref01_Gcd.calls k a1_1 a0_2 t173 _ A5.out).mono ?_); rintro e w' ⟨rfl, ⟨nd, rfl⟩⟩; refine ⟨_, rfl, ?_⟩; (try (rw [drewN_self w15]; generalize hq_ : World.drewN w15 _ = w15; replace BK169 := Aside0.mk (kq hq_ BK169.out); replace BK170 := Aside0.mk (kq hq_ BK170.out); replace BK171 := Aside0.mk (kq hq_ BK171.out); replace HB := Aside0.mk (bq hq_ HB.out); clear hq_))))
     (try (rw [drewN_self w15]; generalize hq_ : World.drewN w15 _ = w15; replace BK169 := Aside0.mk (kq hq_ BK169.out); replace BK170 := Aside0.mk (kq hq_ BK170.out); replace BK171 := Aside0.mk (kq hq_ BK171.out); replace HB := Aside0.mk (bq hq_ HB.out); clear hq_))
     replace BK169 := Aside0.mk (blk_drew BK169.out)
     replace BK170 := Aside0.mk (blk_drew BK170.out)
     replace BK171 := Aside0.mk (blk_drew BK171.out)
     replace HB := Aside0.mk (below_drew1 HB.out)
     refine start_ (n := 11) (S := fun w' => w'.cell? ⟨gb169, 0, none⟩ = some (.int .i64 a0_0) ∧ w'.cell? ⟨gb169, 1, none⟩ = some (.int .i64 a0_1) ∧ w'.cell? ⟨gb169, 2, none⟩ = some (.int .i64 a0_2) ∧ w'.cell? ⟨gb169, 3, none⟩ = some (.int .i64 a0_3) ∧ w'.cell? ⟨gb169, 4, none⟩ = some (.int .i64 a0_4) ∧ w'.cell? ⟨gb170, 0, none⟩ = some (.int .i64 a1_0) ∧ w'.cell? ⟨gb170, 1, none⟩ = some (.int .i64 a1_1) ∧ w'.cell? ⟨gb170, 2, none⟩ = some (.int .i64 a1_2) ∧ w'.cell? ⟨gb170, 3, none⟩ = some (.int .i64 a1_3) ∧ w'.cell? ⟨gb170, 4, none⟩ = some (.int .i64 a1_4)) (ds := []) #[false, false, false, false, false, false, false, false, false, false, false] (by kernel_rfl) rfl rfl ⟨(blk_cell BK169.out 0).trans rfl, (blk_cell BK169.out 1).trans rfl, (blk_cell BK169.out 2).trans rfl, (blk_cell BK169.out 3).trans rfl, (blk_cell BK169.out 4).trans rfl, (blk_cell BK170.out 0).trans rfl, (blk_cell BK170.out 1).trans rfl, (blk_cell BK170.out 2).trans rfl, (blk_cell BK170.out 3).trans rfl, (blk_cell BK170.out 4).trans rfl⟩ (fun hHeld => ?_); refine with_tabW drachmref02_times.tab3 drachmref02_times.bits3 (fun HT_ HW_ => ?_)
     generalize w15.drew = w23 at BK169 BK170 BK171 HB hHeld ⊢
     refine pure_ (i := 0) (N := some 21) (v := ?_) (a' := ?_) #[true, false, false, false, false, false, false, false, false, false, false] rfl rfl (any_of HT_.out (by kernel_rfl)) (fun _ _ _ h => h) (Or.inl ⟨by rfl, ?_⟩) ?_ ?_
     rotate_left
     ·intro w'
      go_simp
      with_reducible rfl
     rotate_left
     ·simp only [Act.put, List.setIfInBounds_toArray, List.set_cons_zero, List.set_cons_succ, i64_w, i32_w]
      rfl
     refine pure_ (i := 2) (N := some 23) (v := ?_) (a' := ?_) #[true, false, true, false, false, false, false, false, false, false, false] rfl rfl (any_of HT_.out (by kernel_rfl)) (fun _ _ _ h => h) (Or.inl ⟨by rfl, ?_⟩) ?_ ?_
     rotate_left
     ·intro w'
      go_simp
      with_reducible rfl
     rotate_left
     ·simp only [Act.put, List.setIfInBounds_toArray, List.set_cons_zero, List.set_cons_succ, i64_w, i32_w]
      rfl
     refine pure_ (i := 4) (N := some 25) (v := ?_) (a' := ?_) #[true, false, true, false, true, false, false, false, false, false, false] rfl rfl (any_of HT_.out (by kernel_rfl)) (fun _ _ _ h => h) (Or.inl ⟨by rfl, ?_⟩) ?_ ?_
     rotate_left
     ·intro w'
      go_simp
      with_reducible rfl
     rotate_left
     ·simp only [Act.put, List.setIfInBounds_toArray, List.set_cons_zero, List.set_cons_succ, i64_w, i32_w]
      rfl
     refine pure_ (i := 6) (N := some 27) (v := ?_) (a' := ?_) #[true, false, true, false, true, false, true, false, false, false, false] rfl rfl (any_of HT_.out (by kernel_rfl)) (fun _ _ _ h => h) (Or.inl ⟨by rfl, ?_⟩) ?_ ?_
     rotate_left
     ·intro w'
      go_simp
      with_reducible rfl
     rotate_left
     ·simp only [Act.put, List.setIfInBounds_toArray, List.set_cons_zero, List.set_cons_succ, i64_w, i32_w]
      rfl
     refine take_ (i := 1) (N := some 22) (v := ?_) (a' := ?_) #[true, true, true, false, true, false, true, false, false, false, false] rfl rfl (take_ofW HT_.out HW_.out (by kernel_rfl)) (fun _ _ _ h => h) (Or.inl ⟨by rfl, ?_⟩) hHeld ?_ ?_
     rotate_left
     ·rintro w' ⟨s0, s1, s2, s3, s4, s5, s6, s7, s8, s9⟩
      go_simp
      with_reducible rfl
     rotate_left
     ·simp only [Act.put, List.setIfInBounds_toArray, List.set_cons_zero, List.set_cons_succ, i64_w, i32_w]
      rfl
     refine pure_ (i := 3) (N := some 24) (v := ?_) (a' := ?_) #[true, true, true, true, true, false, true, false, false, false, false] rfl rfl (any_of HT_.out (by kernel_rfl)) (fun _ _ _ h => h) (Or.inl ⟨by rfl, ?_⟩) ?_ ?_
     rotate_left
     ·intro w'
      go_simp
      with_reducible rfl
     rotate_left
     ·simp only [Act.put, List.setIfInBounds_toArray, List.set_cons_zero, List.set_cons_succ, i64_w, i32_w]
      rfl
     refine take_ (i := 5) (N := some 26) (v := ?_) (a' := ?_) #[true, true, true, true, true, true, true, false, false, false, false] rfl rfl (take_ofW HT_.out HW_.out (by kernel_rfl)) (fun _ _ _ h => h) (Or.inl ⟨by rfl, ?_⟩) hHeld ?_ ?_
     rotate_left
     ·rintro w' ⟨s0, s1, s2, s3, s4, s5, s6, s7, s8, s9⟩
      go_simp
      with_reducible rfl
     rotate_left
     ·simp only [Act.put, List.setIfInBounds_toArray, List.set_cons_zero, List.set_cons_succ, i64_w, i32_w]
      rfl
     refine pure_ (i := 7) (N := some 28) (v := ?_) (a' := ?_) #[true, true, true, true, true, true, true, true, false, false, false] rfl rfl (any_of HT_.out (by kernel_rfl)) (fun _ _ _ h => h) (Or.inl ⟨by rfl, ?_⟩) ?_ ?_
     rotate_left
     ·intro w'
      go_simp
      with_reducible rfl
     rotate_left
     ·simp only [Act.put, List.setIfInBounds_toArray, List.set_cons_zero, List.set_cons_succ, i64_w, i32_w]
      rfl
     refine join_ (σ := Nat) 1 #[true, true, true, true, true, true, true, true, true, true, false] (fun s_ => [(29, .agg #[.int .i64 t174, .bool true]), (9, .pointer (some ⟨s_, 0, none⟩))]) (fun s_ w' => (w'.cell? ⟨gb169, 0, none⟩ = some (.int .i64 a0_0) ∧ w'.cell? ⟨gb169, 1, none⟩ = some (.int .i64 a0_1) ∧ w'.cell? ⟨gb169, 2, none⟩ = some (.int .i64 a0_2) ∧ w'.cell? ⟨gb169, 3, none⟩ = some (.int .i64 a0_3) ∧ w'.cell? ⟨gb169, 4, none⟩ = some (.int .i64 a0_4) ∧ w'.cell? ⟨gb170, 0, none⟩ = some (.int .i64 a1_0) ∧ w'.cell? ⟨gb170, 1, none⟩ = some (.int .i64 a1_1) ∧ w'.cell? ⟨gb170, 2, none⟩ = some (.int .i64 a1_2) ∧ w'.cell? ⟨gb170, 3, none⟩ = some (.int .i64 a1_3) ∧ w'.cell? ⟨gb170, 4, none⟩ = some (.int .i64 a1_4)) ∧ (w'.heap[gb169]? = some (.cells #[.int .i64 a0_0, .int .i64 a0_1, .int .i64 a0_2, .int .i64 a0_3, .int .i64 a0_4] 60 (0, 0))) ∧ (w'.heap[gb170]? = some (.cells #[.int .i64 a1_0, .int .i64 a1_1, .int .i64 a1_2, .int .i64 a1_3, .int .i64 a1_4] 60 (0, 0))) ∧ (w'.heap[gb171]? = some (.cells #[.int .i64 0, .int .i64 0, .int .i64 0, .int .i64 0] 30 (0, 0))) ∧ (w'.heap[s_]? = some (.cells #[.int .i64 0, .bool false] 89 (0, 0))) ∧ (w.heap.size ≤ s_) ∧ (w.heap.size ≤ s_) ∧ (gb169 ≠ s_) ∧ (s_ ≠ gb169) ∧ (gb170 ≠ s_) ∧ (s_ ≠ gb170) ∧ (gb171 ≠ s_) ∧ (s_ ≠ gb171) ∧ (Below w.heap.size w w')) ?_ ?_
     rotate_left
     ·intro hCont
      refine two_ (i := 8) (j := 9) (Ni := some 29) (Nj := some 9) #[true, true, true, true, true, true, true, true, true, false, false] #[true, true, true, true, true, true, true, true, false, true, false] rfl rfl rfl rfl (two_of HT_.out (by kernel_rfl)) (by decide) (by decide) (fun K hK => ?_) (fun K hK => ?_)
      ·skip
       refine goes_ Tryd.func50 (by kernel_rfl) rfl #[.int .i64 (wrap64 (Int.tdiv a0_1 t172)), .int .i64 (wrap64 (Int.tdiv a1_1 t173))] (by rfl) rfl rfl (by (try simp only [List.map_toArray, List.map_cons, List.map_nil]); first | done | rfl | (simp only [List.length_drop, List.length_take]; rfl)) ?_
       with_reducible refine (drachmref01_Mul.calls k (wrap64 (Int.tdiv a0_1 t172)) (wrap64 (Int.tdiv a1_1 t173)) t174 true _ A8.out).mono ?_
       rintro e w24 ⟨rfl, hb⟩
       refine ⟨_, rfl, ?_⟩
       replace BK169 := Aside0.mk (blk_below (kp BK169.out) hb)
       replace BK170 := Aside0.mk (blk_below (kp BK170.out) hb)
       replace BK171 := Aside0.mk (blk_below (kp BK171.out) hb)
       replace HB := Aside0.mk (below_step (bl HB.out) hb)
       (try clear hb)
       (try clear hb2)
       (try clear hk)
       (try clear hi)
       refine hK.out _ _ ⟨(blk_cell BK169.out 0).trans rfl, (blk_cell BK169.out 1).trans rfl, (blk_cell BK169.out 2).trans rfl, (blk_cell BK169.out 3).trans rfl, (blk_cell BK169.out 4).trans rfl, (blk_cell BK170.out 0).trans rfl, (blk_cell BK170.out 1).trans rfl, (blk_cell BK170.out 2).trans rfl, (blk_cell BK170.out 3).trans rfl, (blk_cell BK170.out 4).trans rfl⟩ (fun hHeld => ?_)
       clear hK K
       refine norm_ (a' := ?_) ?_ ?_
       rotate_left
       ·show Act.put _ (some 29) _ = _
        simp only [Act.put, List.setIfInBounds_toArray, List.set_cons_zero, List.set_cons_succ, i64_w, i32_w]
        rfl
       refine one_ (i := 9) (N := some 9) #[true, true, true, true, true, true, true, true, true, true, false] rfl rfl (one_of HT_.out (by kernel_rfl)) (by decide) (fun K hK => ?_)
       refine box_step ?hg (N := 9) ?hd (cs := #[.int .i64 0, .bool false]) (t := 89) ?hr ?_; (case hd => rfl); (case hg => rfl); (case hr => first | (go_simp; done) | (go_simp; rfl))
       intro gb176 hg w25 hbox hb
       have n0_ := Aside0.mk (blk_below (kp BK169.out) hb)
       have n1_ := Aside0.mk (blk_below (kp BK170.out) hb)
       have n2_ := Aside0.mk (blk_below (kp BK171.out) hb)
       have n3_ := Aside0.mk (below_step (bl HB.out) hb)
       have n4_ := Aside0.mk (hbox)
       have n5_ := Aside0.mk ((by rw [hg]; exact (below_size (bl HB.out)) : w.heap.size ≤ gb176))
       have n6_ := Aside0.mk ((by rw [hg]; exact (below_size (bl HB.out)) : w.heap.size ≤ gb176))
       have n7_ := Aside0.mk ((by rw [hg]; exact Nat.ne_of_lt (blk_lt (kp BK169.out)) : gb169 ≠ gb176))
       have n8_ := Aside0.mk ((by rw [hg]; exact Nat.ne_of_gt (blk_lt (kp BK169.out)) : gb176 ≠ gb169))
       have n9_ := Aside0.mk ((by rw [hg]; exact Nat.ne_of_lt (blk_lt (kp BK170.out)) : gb170 ≠ gb176))
       have n10_ := Aside0.mk ((by rw [hg]; exact Nat.ne_of_gt (blk_lt (kp BK170.out)) : gb176 ≠ gb170))
       have n11_ := Aside0.mk ((by rw [hg]; exact Nat.ne_of_lt (blk_lt (kp BK171.out)) : gb171 ≠ gb176))
       have n12_ := Aside0.mk ((by rw [hg]; exact Nat.ne_of_gt (blk_lt (kp BK171.out)) : gb176 ≠ gb171))
       clear BK169
       clear BK170
       clear BK171
       clear HB
       have BK169 := n0_
       have BK170 := n1_
       have BK171 := n2_
       have HB := n3_
       have BK176 := n4_
       have GW176 := n5_
       have GE176 := n6_
       have NB169_176 := n7_
       have NB176_169 := n8_
       have NB170_176 := n9_
       have NB176_170 := n10_
       have NB171_176 := n11_
       have NB176_171 := n12_
       clear n0_ n1_ n2_ n3_ n4_ n5_ n6_ n7_ n8_ n9_ n10_ n11_ n12_
       clear hb hbox hg
       refine hK.out _ _ ⟨(blk_cell BK169.out 0).trans rfl, (blk_cell BK169.out 1).trans rfl, (blk_cell BK169.out 2).trans rfl, (blk_cell BK169.out 3).trans rfl, (blk_cell BK169.out 4).trans rfl, (blk_cell BK170.out 0).trans rfl, (blk_cell BK170.out 1).trans rfl, (blk_cell BK170.out 2).trans rfl, (blk_cell BK170.out 3).trans rfl, (blk_cell BK170.out 4).trans rfl⟩ (fun hHeld => ?_)
       clear hK K
       refine norm_ (a' := ?_) ?_ ?_
       rotate_left
       ·show Act.put _ (some 9) _ = _
        simp only [Act.put, List.setIfInBounds_toArray, List.set_cons_zero, List.set_cons_succ, i64_w, i32_w]
        rfl
       exact norm_ (by simp only [putAll, Act.put, List.setIfInBounds_toArray, List.set_cons_zero, List.set_cons_succ]) (hCont (gb176) _ ⟨hHeld, (kp BK169.out), (kp BK170.out), (kp BK171.out), (kp BK176.out), GW176.out, GE176.out, NB169_176.out, NB176_169.out, NB170_176.out, NB176_170.out, NB171_176.out, NB176_171.out, (bl HB.out)⟩)
      ·skip
       refine box_step ?hg (N := 9) ?hd (cs := #[.int .i64 0, .bool false]) (t := 89) ?hr ?_; (case hd => rfl); (case hg => rfl); (case hr => first | (go_simp; done) | (go_simp; rfl))
       intro gb176 hg w24 hbox hb
       have n0_ := Aside0.mk (blk_below (kp BK169.out) hb)
       have n1_ := Aside0.mk (blk_below (kp BK170.out) hb)
       have n2_ := Aside0.mk (blk_below (kp BK171.out) hb)
       have n3_ := Aside0.mk (below_step (bl HB.out) hb)
       have n4_ := Aside0.mk (hbox)
       have n5_ := Aside0.mk ((by rw [hg]; exact (below_size (bl HB.out)) : w.heap.size ≤ gb176))
       have n6_ := Aside0.mk ((by rw [hg]; exact (below_size (bl HB.out)) : w.heap.size ≤ gb176))
       have n7_ := Aside0.mk ((by rw [hg]; exact Nat.ne_of_lt (blk_lt (kp BK169.out)) : gb169 ≠ gb176))
       have n8_ := Aside0.mk ((by rw [hg]; exact Nat.ne_of_gt (blk_lt (kp BK169.out)) : gb176 ≠ gb169))
       have n9_ := Aside0.mk ((by rw [hg]; exact Nat.ne_of_lt (blk_lt (kp BK170.out)) : gb170 ≠ gb176))
       have n10_ := Aside0.mk ((by rw [hg]; exact Nat.ne_of_gt (blk_lt (kp BK170.out)) : gb176 ≠ gb170))
       have n11_ := Aside0.mk ((by rw [hg]; exact Nat.ne_of_lt (blk_lt (kp BK171.out)) : gb171 ≠ gb176))
       have n12_ := Aside0.mk ((by rw [hg]; exact Nat.ne_of_gt (blk_lt (kp BK171.out)) : gb176 ≠ gb171))
       clear BK169
       clear BK170
       clear BK171
       clear HB
       have BK169 := n0_
       have BK170 := n1_
       have BK171 := n2_
       have HB := n3_
       have BK176 := n4_
       have GW176 := n5_
       have GE176 := n6_
       have NB169_176 := n7_
       have NB176_169 := n8_
       have NB170_176 := n9_
       have NB176_170 := n10_
       have NB171_176 := n11_
       have NB176_171 := n12_
       clear n0_ n1_ n2_ n3_ n4_ n5_ n6_ n7_ n8_ n9_ n10_ n11_ n12_
       clear hb hbox hg
       refine hK.out _ _ ⟨(blk_cell BK169.out 0).trans rfl, (blk_cell BK169.out 1).trans rfl, (blk_cell BK169.out 2).trans rfl, (blk_cell BK169.out 3).trans rfl, (blk_cell BK169.out 4).trans rfl, (blk_cell BK170.out 0).trans rfl, (blk_cell BK170.out 1).trans rfl, (blk_cell BK170.out 2).trans rfl, (blk_cell BK170.out 3).trans rfl, (blk_cell BK170.out 4).trans rfl⟩ (fun hHeld => ?_)
       clear hK K
       refine norm_ (a' := ?_) ?_ ?_
       rotate_left
       ·show Act.put _ (some 9) _ = _
        simp only [Act.put, List.setIfInBounds_toArray, List.set_cons_zero, List.set_cons_succ, i64_w, i32_w]
        rfl
       refine one_ (i := 8) (N := some 29) #[true, true, true, true, true, true, true, true, true, true, false] rfl rfl (one_of HT_.out (by kernel_rfl)) (by decide) (fun K hK => ?_)
       refine goes_ Tryd.func50 (by kernel_rfl) rfl #[.int .i64 (wrap64 (Int.tdiv a0_1 t172)), .int .i64 (wrap64 (Int.tdiv a1_1 t173))] (by rfl) rfl rfl (by (try simp only [List.map_toArray, List.map_cons, List.map_nil]); first | done | rfl | (simp only [List.length_drop, List.length_take]; rfl)) ?_
       with_reducible refine (drachmref01_Mul.calls k (wrap64 (Int.tdiv a0_1 t172)) (wrap64 (Int.tdiv a1_1 t173)) t174 true _ A8.out).mono ?_
       rintro e w25 ⟨rfl, hb⟩
       refine ⟨_, rfl, ?_⟩
       replace BK169 := Aside0.mk (blk_below (kp BK169.out) hb)
       replace BK170 := Aside0.mk (blk_below (kp BK170.out) hb)
       replace BK171 := Aside0.mk (blk_below (kp BK171.out) hb)
       replace BK176 := Aside0.mk (blk_below (kp BK176.out) hb)
       replace HB := Aside0.mk (below_step (bl HB.out) hb)
       (try clear hb)
       (try clear hb2)
       (try clear hk)
       (try clear hi)
       refine hK.out _ _ ⟨(blk_cell BK169.out 0).trans rfl, (blk_cell BK169.out 1).trans rfl, (blk_cell BK169.out 2).trans rfl, (blk_cell BK169.out 3).trans rfl, (blk_cell BK169.out 4).trans rfl, (blk_cell BK170.out 0).trans rfl, (blk_cell BK170.out 1).trans rfl, (blk_cell BK170.out 2).trans rfl, (blk_cell BK170.out 3).trans rfl, (blk_cell BK170.out 4).trans rfl⟩ (fun hHeld => ?_)
       clear hK K
       refine norm_ (a' := ?_) ?_ ?_
       rotate_left
       ·show Act.put _ (some 29) _ = _
        simp only [Act.put, List.setIfInBounds_toArray, List.set_cons_zero, List.set_cons_succ, i64_w, i32_w]
        rfl
       exact norm_ (by simp only [putAll, Act.put, List.setIfInBounds_toArray, List.set_cons_zero, List.set_cons_succ]) (hCont (gb176) _ ⟨hHeld, (kp BK169.out), (kp BK170.out), (kp BK171.out), (kp BK176.out), GW176.out, GE176.out, NB169_176.out, NB176_169.out, NB170_176.out, NB176_170.out, NB171_176.out, NB176_171.out, (bl HB.out)⟩)
     rintro gb176 w26 ⟨hS_, h0_, h1_, h2_, h3_, h4_, h5_, h6_, h7_, h8_, h9_, h10_, h11_, h12_⟩
     have BK176 : Aside0 (w26.heap[gb176]? = some (.cells #[.int .i64 0, .bool false] 89 (0, 0))) := ⟨h3_⟩
     have GW176 : Aside0 (w.heap.size ≤ gb176) := ⟨h4_⟩
     have GE176 : Aside0 (w.heap.size ≤ gb176) := ⟨h5_⟩
     have NB169_176 : Aside0 (gb169 ≠ gb176) := ⟨h6_⟩
     have NB176_169 : Aside0 (gb176 ≠ gb169) := ⟨h7_⟩
     have NB170_176 : Aside0 (gb170 ≠ gb176) := ⟨h8_⟩
     have NB176_170 : Aside0 (gb176 ≠ gb170) := ⟨h9_⟩
     have NB171_176 : Aside0 (gb171 ≠ gb176) := ⟨h10_⟩
     have NB176_171 : Aside0 (gb176 ≠ gb171) := ⟨h11_⟩
     replace BK169 : Aside0 (w26.heap[gb169]? = some (.cells #[.int .i64 a0_0, .int .i64 a0_1, .int .i64 a0_2, .int .i64 a0_3, .int .i64 a0_4] 60 (0, 0))) := ⟨h0_⟩
     replace BK170 : Aside0 (w26.heap[gb170]? = some (.cells #[.int .i64 a1_0, .int .i64 a1_1, .int .i64 a1_2, .int .i64 a1_3, .int .i64 a1_4] 60 (0, 0))) := ⟨h1_⟩
     replace BK171 : Aside0 (w26.heap[gb171]? = some (.cells #[.int .i64 0, .int .i64 0, .int .i64 0, .int .i64 0] 30 (0, 0))) := ⟨h2_⟩
     replace HB : Aside0 (Below w.heap.size w w26) := ⟨h12_⟩
     clear h0_ h1_ h2_ h3_ h4_ h5_ h6_ h7_ h8_ h9_ h10_ h11_ h12_
     have hHeld : w26.cell? ⟨gb169, 0, none⟩ = some (.int .i64 a0_0) ∧ w26.cell? ⟨gb169, 1, none⟩ = some (.int .i64 a0_1) ∧ w26.cell? ⟨gb169, 2, none⟩ = some (.int .i64 a0_2) ∧ w26.cell? ⟨gb169, 3, none⟩ = some (.int .i64 a0_3) ∧ w26.cell? ⟨gb169, 4, none⟩ = some (.int .i64 a0_4) ∧ w26.cell? ⟨gb170, 0, none⟩ = some (.int .i64 a1_0) ∧ w26.cell? ⟨gb170, 1, none⟩ = some (.int .i64 a1_1) ∧ w26.cell? ⟨gb170, 2, none⟩ = some (.int .i64 a1_2) ∧ w26.cell? ⟨gb170, 3, none⟩ = some (.int .i64 a1_3) ∧ w26.cell? ⟨gb170, 4, none⟩ = some (.int .i64 a1_4) := hS_
     refine norm_ (a' := ?_) ?_ ?_
     rotate_left
     ·simp only [putAll, Act.put, List.setIfInBounds_toArray, List.set_cons_zero, List.set_cons_succ]
      rfl
     refine one_ (i := 10) (N := none) #[true, true, true, true, true, true, true, true, true, true, true] rfl rfl (one_of HT_.out (by kernel_rfl)) (by decide) (fun K hK => ?_)
     have hs27 : w26.cell? ⟨gb176, 0, none⟩ = some (.int .i64 0) := (blk_cell BK176.out 0).trans rfl
     have hfs27 := blk_frozen BK176.out 0
     have hns27_0 := NB169_176.out
     have hns27_1 := NB170_176.out
     have hns27_2 := NB171_176.out
     have hms27_0 := NB176_169.out
     have hms27_1 := NB176_170.out
     have hms27_2 := NB176_171.out
     have hs28 : w26.cell? ⟨gb176, 1, none⟩ = some (.bool false) := (blk_cell BK176.out 1).trans rfl
     have hfs28 := blk_frozen BK176.out 1
     have hns28_0 := NB169_176.out
     have hns28_1 := NB170_176.out
     have hns28_2 := NB171_176.out
     have hms28_0 := NB176_169.out
     have hms28_1 := NB176_170.out
     have hms28_2 := NB176_171.out
     refine skip_ (w1 := ?_) (by rfl) rfl ?_ ?_
     rotate_left
     ·go_simp
      rfl
     refine hK.out _ _ ⟨((cell_far (p := ⟨gb176, _, none⟩) NB169_176.out _).trans (((cell_far (p := ⟨gb176, _, none⟩) NB169_176.out _).trans (hHeld.1)))), ((cell_far (p := ⟨gb176, _, none⟩) NB169_176.out _).trans (((cell_far (p := ⟨gb176, _, none⟩) NB169_176.out _).trans (hHeld.2.1)))), ((cell_far (p := ⟨gb176, _, none⟩) NB169_176.out _).trans (((cell_far (p := ⟨gb176, _, none⟩) NB169_176.out _).trans (hHeld.2.2.1)))), ((cell_far (p := ⟨gb176, _, none⟩) NB169_176.out _).trans (((cell_far (p := ⟨gb176, _, none⟩) NB169_176.out _).trans (hHeld.2.2.2.1)))), ((cell_far (p := ⟨gb176, _, none⟩) NB169_176.out _).trans (((cell_far (p := ⟨gb176, _, none⟩) NB169_176.out _).trans (hHeld.2.2.2.2.1)))), ((cell_far (p := ⟨gb176, _, none⟩) NB170_176.out _).trans (((cell_far (p := ⟨gb176, _, none⟩) NB170_176.out _).trans (hHeld.2.2.2.2.2.1)))), ((cell_far (p := ⟨gb176, _, none⟩) NB170_176.out _).trans (((cell_far (p := ⟨gb176, _, none⟩) NB170_176.out _).trans (hHeld.2.2.2.2.2.2.1)))), ((cell_far (p := ⟨gb176, _, none⟩) NB170_176.out _).trans (((cell_far (p := ⟨gb176, _, none⟩) NB170_176.out _).trans (hHeld.2.2.2.2.2.2.2.1)))), ((cell_far (p := ⟨gb176, _, none⟩) NB170_176.out _).trans (((cell_far (p := ⟨gb176, _, none⟩) NB170_176.out _).trans (hHeld.2.2.2.2.2.2.2.2.1)))), ((cell_far (p := ⟨gb176, _, none⟩) NB170_176.out _).trans (((cell_far (p := ⟨gb176, _, none⟩) NB170_176.out _).trans (hHeld.2.2.2.2.2.2.2.2.2))))⟩ (fun hHeld => ?_)
     clear hK K
     refine done_ (done_of HT_.out (by kernel_rfl)) ?_
     try go_wp2
     have n0_ : Aside0 (((w26.setCell ⟨gb176, 0, none⟩ (.int .i64 t174)).setCell ⟨gb176, 1, none⟩ (.bool true)).heap[gb169]? = some (.cells #[.int .i64 a0_0, .int .i64 a0_1, .int .i64 a0_2, .int .i64 a0_3, .int .i64 a0_4] 60 (0, 0))) := ⟨kp BK169.out⟩
     have n1_ : Aside0 (((w26.setCell ⟨gb176, 0, none⟩ (.int .i64 t174)).setCell ⟨gb176, 1, none⟩ (.bool true)).heap[gb170]? = some (.cells #[.int .i64 a1_0, .int .i64 a1_1, .int .i64 a1_2, .int .i64 a1_3, .int .i64 a1_4] 60 (0, 0))) := ⟨kp BK170.out⟩
     have n2_ : Aside0 (((w26.setCell ⟨gb176, 0, none⟩ (.int .i64 t174)).setCell ⟨gb176, 1, none⟩ (.bool true)).heap[gb171]? = some (.cells #[.int .i64 0, .int .i64 0, .int .i64 0, .int .i64 0] 30 (0, 0))) := ⟨kp BK171.out⟩
     have n3_ : Aside0 (((w26.setCell ⟨gb176, 0, none⟩ (.int .i64 t174)).setCell ⟨gb176, 1, none⟩ (.bool true)).heap[gb176]? = some (.cells #[.int .i64 t174, .bool true] 89 (0, 0))) := ⟨kp (p2_1 (kp (p2_0 (kp BK176.out))))⟩
     have n4_ : Aside0 (Below w.heap.size w ((w26.setCell ⟨gb176, 0, none⟩ (.int .i64 t174)).setCell ⟨gb176, 1, none⟩ (.bool true))) := ⟨bl HB.out⟩
     (try clear BK169)
     (try clear BK170)
     (try clear BK171)
     (try clear BK176)
     (try clear HB)
     generalize ((w26.setCell ⟨gb176, 0, none⟩ (.int .i64 t174)).setCell ⟨gb176, 1, none⟩ (.bool true)) = w29 at n0_ n1_ n2_ n3_ n4_ ⊢
     have BK169 := n0_
     have BK170 := n1_
     have BK171 := n2_
     have BK176 := n3_
     have HB := n4_
     clear n0_ n1_ n2_ n3_ n4_
     (try (rw [drewN_self w29]; generalize hq_ : World.drewN w29 _ = w29; replace BK169 := Aside0.mk (kq hq_ BK169.out); replace BK170 := Aside0.mk (kq hq_ BK170.out); replace BK171 := Aside0.mk (kq hq_ BK171.out); replace BK176 := Aside0.mk (kq hq_ BK176.out); replace HB := Aside0.mk (bq hq_ HB.out); clear hq_))
     replace BK169 := Aside0.mk (blk_drew BK169.out)
     replace BK170 := Aside0.mk (blk_drew BK170.out)
     replace BK171 := Aside0.mk (blk_drew BK171.out)
     replace BK176 := Aside0.mk (blk_drew BK176.out)
     replace HB := Aside0.mk (below_drew1 HB.out)
     refine start_ (n := 11) (S := fun w' => w'.cell? ⟨gb169, 0, none⟩ = some (.int .i64 a0_0) ∧ w'.cell? ⟨gb169, 1, none⟩ = some (.int .i64 a0_1) ∧ w'.cell? ⟨gb169, 2, none⟩ = some (.int .i64 a0_2) ∧ w'.cell? ⟨gb169, 3, none⟩ = some (.int .i64 a0_3) ∧ w'.cell? ⟨gb169, 4, none⟩ = some (.int .i64 a0_4) ∧ w'.cell? ⟨gb170, 0, none⟩ = some (.int .i64 a1_0) ∧ w'.cell? ⟨gb170, 1, none⟩ = some (.int .i64 a1_1) ∧ w'.cell? ⟨gb170, 2, none⟩ = some (.int .i64 a1_2) ∧ w'.cell? ⟨gb170, 3, none⟩ = some (.int .i64 a1_3) ∧ w'.cell? ⟨gb170, 4, none⟩ = some (.int .i64 a1_4)) (ds := []) #[false, false, false, false, false, false, false, false, false, false, false] (by kernel_rfl) rfl rfl ⟨(blk_cell BK169.out 0).trans rfl, (blk_cell BK169.out 1).trans rfl, (blk_cell BK169.out 2).trans rfl, (blk_cell BK169.out 3).trans rfl, (blk_cell BK169.out 4).trans rfl, (blk_cell BK170.out 0).trans rfl, (blk_cell BK170.out 1).trans rfl, (blk_cell BK170.out 2).trans rfl, (blk_cell BK170.out 3).trans rfl, (blk_cell BK170.out 4).trans rfl⟩ (fun hHeld => ?_); refine with_tabW drachmref02_times.tab4 drachmref02_times.bits4 (fun HT_ HW_ => ?_)
     generalize w29.drew = w30 at BK169 BK170 BK171 BK176 HB hHeld ⊢
     refine pure_ (i := 0) (N := some 30) (v := ?_) (a' := ?_) #[true, false, false, false, false, false, false, false, false, false, false] rfl rfl (any_of HT_.out (by kernel_rfl)) (fun _ _ _ h => h) (Or.inl ⟨by rfl, ?_⟩) ?_ ?_
     rotate_left
     ·intro w'
      go_simp
      with_reducible rfl
     rotate_left
     ·simp only [Act.put, List.setIfInBounds_toArray, List.set_cons_zero, List.set_cons_succ, i64_w, i32_w]
      rfl
     refine pure_ (i := 2) (N := some 32) (v := ?_) (a' := ?_) #[true, false, true, false, false, false, false, false, false, false, false] rfl rfl (any_of HT_.out (by kernel_rfl)) (fun _ _ _ h => h) (Or.inl ⟨by rfl, ?_⟩) ?_ ?_
     rotate_left
     ·intro w'
      go_simp
      with_reducible rfl
     rotate_left
     ·simp only [Act.put, List.setIfInBounds_toArray, List.set_cons_zero, List.set_cons_succ, i64_w, i32_w]
      rfl
     refine pure_ (i := 4) (N := some 34) (v := ?_) (a' := ?_) #[true, false, true, false, true, false, false, false, false, false, false] rfl rfl (any_of HT_.out (by kernel_rfl)) (fun _ _ _ h => h) (Or.inl ⟨by rfl, ?_⟩) ?_ ?_
     rotate_left
     ·intro w'
      go_simp
      with_reducible rfl
     rotate_left
     ·simp only [Act.put, List.setIfInBounds_toArray, List.set_cons_zero, List.set_cons_succ, i64_w, i32_w]
      rfl
     refine pure_ (i := 6) (N := some 36) (v := ?_) (a' := ?_) #[true, false, true, false, true, false, true, false, false, false, false] rfl rfl (any_of HT_.out (by kernel_rfl)) (fun _ _ _ h => h) (Or.inl ⟨by rfl, ?_⟩) ?_ ?_
     rotate_left
     ·intro w'
      go_simp
      with_reducible rfl
     rotate_left
     ·simp only [Act.put, List.setIfInBounds_toArray, List.set_cons_zero, List.set_cons_succ, i64_w, i32_w]
      rfl
     refine take_ (i := 1) (N := some 31) (v := ?_) (a' := ?_) #[true, true, true, false, true, false, true, false, false, false, false] rfl rfl (take_ofW HT_.out HW_.out (by kernel_rfl)) (fun _ _ _ h => h) (Or.inl ⟨by rfl, ?_⟩) hHeld ?_ ?_
     rotate_left
     ·rintro w' ⟨s0, s1, s2, s3, s4, s5, s6, s7, s8, s9⟩
      go_simp
      with_reducible rfl
     rotate_left
     ·simp only [Act.put, List.setIfInBounds_toArray, List.set_cons_zero, List.set_cons_succ, i64_w, i32_w]
      rfl
     refine pure_ (i := 3) (N := some 33) (v := ?_) (a' := ?_) #[true, true, true, true, true, false, true, false, false, false, false] rfl rfl (any_of HT_.out (by kernel_rfl)) (fun _ _ _ h => h) (Or.inl ⟨by rfl, ?_⟩) ?_ ?_
     rotate_left
     ·intro w'
      go_simp
      with_reducible rfl
     rotate_left
     ·simp only [Act.put, List.setIfInBounds_toArray, List.set_cons_zero, List.set_cons_succ, i64_w, i32_w]
      rfl
     refine take_ (i := 5) (N := some 35) (v := ?_) (a' := ?_) #[true, true, true, true, true, true, true, false, false, false, false] rfl rfl (take_ofW HT_.out HW_.out (by kernel_rfl)) (fun _ _ _ h => h) (Or.inl ⟨by rfl, ?_⟩) hHeld ?_ ?_
     rotate_left
     ·rintro w' ⟨s0, s1, s2, s3, s4, s5, s6, s7, s8, s9⟩
      go_simp
      with_reducible rfl
     rotate_left
     ·simp only [Act.put, List.setIfInBounds_toArray, List.set_cons_zero, List.set_cons_succ, i64_w, i32_w]
      rfl
     refine pure_ (i := 7) (N := some 37) (v := ?_) (a' := ?_) #[true, true, true, true, true, true, true, true, false, false, false] rfl rfl (any_of HT_.out (by kernel_rfl)) (fun _ _ _ h => h) (Or.inl ⟨by rfl, ?_⟩) ?_ ?_
     rotate_left
     ·intro w'
      go_simp
      with_reducible rfl
     rotate_left
     ·simp only [Act.put, List.setIfInBounds_toArray, List.set_cons_zero, List.set_cons_succ, i64_w, i32_w]
      rfl
     refine join_ (σ := Nat) 1 #[true, true, true, true, true, true, true, true, true, true, false] (fun s_ => [(38, .agg #[.int .i64 t177, .bool true]), (10, .pointer (some ⟨s_, 0, none⟩))]) (fun s_ w' => (w'.cell? ⟨gb169, 0, none⟩ = some (.int .i64 a0_0) ∧ w'.cell? ⟨gb169, 1, none⟩ = some (.int .i64 a0_1) ∧ w'.cell? ⟨gb169, 2, none⟩ = some (.int .i64 a0_2) ∧ w'.cell? ⟨gb169, 3, none⟩ = some (.int .i64 a0_3) ∧ w'.cell? ⟨gb169, 4, none⟩ = some (.int .i64 a0_4) ∧ w'.cell? ⟨gb170, 0, none⟩ = some (.int .i64 a1_0) ∧ w'.cell? ⟨gb170, 1, none⟩ = some (.int .i64 a1_1) ∧ w'.cell? ⟨gb170, 2, none⟩ = some (.int .i64 a1_2) ∧ w'.cell? ⟨gb170, 3, none⟩ = some (.int .i64 a1_3) ∧ w'.cell? ⟨gb170, 4, none⟩ = some (.int .i64 a1_4)) ∧ (w'.heap[gb169]? = some (.cells #[.int .i64 a0_0, .int .i64 a0_1, .int .i64 a0_2, .int .i64 a0_3, .int .i64 a0_4] 60 (0, 0))) ∧ (w'.heap[gb170]? = some (.cells #[.int .i64 a1_0, .int .i64 a1_1, .int .i64 a1_2, .int .i64 a1_3, .int .i64 a1_4] 60 (0, 0))) ∧ (w'.heap[gb171]? = some (.cells #[.int .i64 0, .int .i64 0, .int .i64 0, .int .i64 0] 30 (0, 0))) ∧ (w'.heap[gb176]? = some (.cells #[.int .i64 t174, .bool true] 89 (0, 0))) ∧ (w'.heap[s_]? = some (.cells #[.int .i64 0, .bool false] 89 (0, 0))) ∧ (w.heap.size ≤ s_) ∧ (w.heap.size ≤ s_) ∧ (gb169 ≠ s_) ∧ (s_ ≠ gb169) ∧ (gb170 ≠ s_) ∧ (s_ ≠ gb170) ∧ (gb171 ≠ s_) ∧ (s_ ≠ gb171) ∧ (gb176 ≠ s_) ∧ (s_ ≠ gb176) ∧ (Below w.heap.size w w')) ?_ ?_
     rotate_left
     ·intro hCont
      refine two_ (i := 8) (j := 9) (Ni := some 38) (Nj := some 10) #[true, true, true, true, true, true, true, true, true, false, false] #[true, true, true, true, true, true, true, true, false, true, false] rfl rfl rfl rfl (two_of HT_.out (by kernel_rfl)) (by decide) (by decide) (fun K hK => ?_) (fun K hK => ?_)
      ·skip
       refine goes_ Tryd.func50 (by kernel_rfl) rfl #[.int .i64 (wrap64 (Int.tdiv a0_2 t173)), .int .i64 (wrap64 (Int.tdiv a1_2 t172))] (by rfl) rfl rfl (by (try simp only [List.map_toArray, List.map_cons, List.map_nil]); first | done | rfl | (simp only [List.length_drop, List.length_take]; rfl)) ?_
       with_reducible refine (drachmref01_Mul.calls k (wrap64 (Int.tdiv a0_2 t173)) (wrap64 (Int.tdiv a1_2 t172)) t177 true _ A9.out).mono ?_
       rintro e w31 ⟨rfl, hb⟩
       refine ⟨_, rfl, ?_⟩
       replace BK169 := Aside0.mk (blk_below (kp BK169.out) hb)
       replace BK170 := Aside0.mk (blk_below (kp BK170.out) hb)
       replace BK171 := Aside0.mk (blk_below (kp BK171.out) hb)
       replace BK176 := Aside0.mk (blk_below (kp BK176.out) hb)
       replace HB := Aside0.mk (below_step (bl HB.out) hb)
       (try clear hb)
       (try clear hb2)
       (try clear hk)
       (try clear hi)
       refine hK.out _ _ ⟨(blk_cell BK169.out 0).trans rfl, (blk_cell BK169.out 1).trans rfl, (blk_cell BK169.out 2).trans rfl, (blk_cell BK169.out 3).trans rfl, (blk_cell BK169.out 4).trans rfl, (blk_cell BK170.out 0).trans rfl, (blk_cell BK170.out 1).trans rfl, (blk_cell BK170.out 2).trans rfl, (blk_cell BK170.out 3).trans rfl, (blk_cell BK170.out 4).trans rfl⟩ (fun hHeld => ?_)
       clear hK K
       refine norm_ (a' := ?_) ?_ ?_
       rotate_left
       ·show Act.put _ (some 38) _ = _
        simp only [Act.put, List.setIfInBounds_toArray, List.set_cons_zero, List.set_cons_succ, i64_w, i32_w]
        rfl
       refine one_ (i := 9) (N := some 10) #[true, true, true, true, true, true, true, true, true, true, false] rfl rfl (one_of HT_.out (by kernel_rfl)) (by decide) (fun K hK => ?_)
       refine box_step ?hg (N := 10) ?hd (cs := #[.int .i64 0, .bool false]) (t := 89) ?hr ?_; (case hd => rfl); (case hg => rfl); (case hr => first | (go_simp; done) | (go_simp; rfl))
       intro gb179 hg w32 hbox hb
       have n0_ := Aside0.mk (blk_below (kp BK169.out) hb)
       have n1_ := Aside0.mk (blk_below (kp BK170.out) hb)
       have n2_ := Aside0.mk (blk_below (kp BK171.out) hb)
       have n3_ := Aside0.mk (blk_below (kp BK176.out) hb)
       have n4_ := Aside0.mk (below_step (bl HB.out) hb)
       have n5_ := Aside0.mk (hbox)
       have n6_ := Aside0.mk ((by rw [hg]; exact (below_size (bl HB.out)) : w.heap.size ≤ gb179))
       have n7_ := Aside0.mk ((by rw [hg]; exact (below_size (bl HB.out)) : w.heap.size ≤ gb179))
       have n8_ := Aside0.mk ((by rw [hg]; exact Nat.ne_of_lt (blk_lt (kp BK169.out)) : gb169 ≠ gb179))
       have n9_ := Aside0.mk ((by rw [hg]; exact Nat.ne_of_gt (blk_lt (kp BK169.out)) : gb179 ≠ gb169))
       have n10_ := Aside0.mk ((by rw [hg]; exact Nat.ne_of_lt (blk_lt (kp BK170.out)) : gb170 ≠ gb179))
       have n11_ := Aside0.mk ((by rw [hg]; exact Nat.ne_of_gt (blk_lt (kp BK170.out)) : gb179 ≠ gb170))
       have n12_ := Aside0.mk ((by rw [hg]; exact Nat.ne_of_lt (blk_lt (kp BK171.out)) : gb171 ≠ gb179))
       have n13_ := Aside0.mk ((by rw [hg]; exact Nat.ne_of_gt (blk_lt (kp BK171.out)) : gb179 ≠ gb171))
       have n14_ := Aside0.mk ((by rw [hg]; exact Nat.ne_of_lt (blk_lt (kp BK176.out)) : gb176 ≠ gb179))
       have n15_ := Aside0.mk ((by rw [hg]; exact Nat.ne_of_gt (blk_lt (kp BK176.out)) : gb179 ≠ gb176))
       clear BK169
       clear BK170
       clear BK171
       clear BK176
       clear HB
       have BK169 := n0_
       have BK170 := n1_
       have BK171 := n2_
       have BK176 := n3_
       have HB := n4_
       have BK179 := n5_
       have GW179 := n6_
       have GE179 := n7_
       have NB169_179 := n8_
       have NB179_169 := n9_
       have NB170_179 := n10_
       have NB179_170 := n11_
       have NB171_179 := n12_
       have NB179_171 := n13_
       have NB176_179 := n14_
       have NB179_176 := n15_
       clear n0_ n1_ n2_ n3_ n4_ n5_ n6_ n7_ n8_ n9_ n10_ n11_ n12_ n13_ n14_ n15_
       clear hb hbox hg
       refine hK.out _ _ ⟨(blk_cell BK169.out 0).trans rfl, (blk_cell BK169.out 1).trans rfl, (blk_cell BK169.out 2).trans rfl, (blk_cell BK169.out 3).trans rfl, (blk_cell BK169.out 4).trans rfl, (blk_cell BK170.out 0).trans rfl, (blk_cell BK170.out 1).trans rfl, (blk_cell BK170.out 2).trans rfl, (blk_cell BK170.out 3).trans rfl, (blk_cell BK170.out 4).trans rfl⟩ (fun hHeld => ?_)
       clear hK K
       refine norm_ (a' := ?_) ?_ ?_
       rotate_left
       ·show Act.put _ (some 10) _ = _
        simp only [Act.put, List.setIfInBounds_toArray, List.set_cons_zero, List.set_cons_succ, i64_w, i32_w]
        rfl
       exact norm_ (by simp only [putAll, Act.put, List.setIfInBounds_toArray, List.set_cons_zero, List.set_cons_succ]) (hCont (gb179) _ ⟨hHeld, (kp BK169.out), (kp BK170.out), (kp BK171.out), (kp BK176.out), (kp BK179.out), GW179.out, GE179.out, NB169_179.out, NB179_169.out, NB170_179.out, NB179_170.out, NB171_179.out, NB179_171.out, NB176_179.out, NB179_176.out, (bl HB.out)⟩)
      ·skip
       refine box_step ?hg (N := 10) ?hd (cs := #[.int .i64 0, .bool false]) (t := 89) ?hr ?_; (case hd => rfl); (case hg => rfl); (case hr => first | (go_simp; done) | (go_simp; rfl))
       intro gb179 hg w31 hbox hb
       have n0_ := Aside0.mk (blk_below (kp BK169.out) hb)
       have n1_ := Aside0.mk (blk_below (kp BK170.out) hb)
       have n2_ := Aside0.mk (blk_below (kp BK171.out) hb)
       have n3_ := Aside0.mk (blk_below (kp BK176.out) hb)
       have n4_ := Aside0.mk (below_step (bl HB.out) hb)
       have n5_ := Aside0.mk (hbox)
       have n6_ := Aside0.mk ((by rw [hg]; exact (below_size (bl HB.out)) : w.heap.size ≤ gb179))
       have n7_ := Aside0.mk ((by rw [hg]; exact (below_size (bl HB.out)) : w.heap.size ≤ gb179))
       have n8_ := Aside0.mk ((by rw [hg]; exact Nat.ne_of_lt (blk_lt (kp BK169.out)) : gb169 ≠ gb179))
       have n9_ := Aside0.mk ((by rw [hg]; exact Nat.ne_of_gt (blk_lt (kp BK169.out)) : gb179 ≠ gb169))
       have n10_ := Aside0.mk ((by rw [hg]; exact Nat.ne_of_lt (blk_lt (kp BK170.out)) : gb170 ≠ gb179))
       have n11_ := Aside0.mk ((by rw [hg]; exact Nat.ne_of_gt (blk_lt (kp BK170.out)) : gb179 ≠ gb170))
       have n12_ := Aside0.mk ((by rw [hg]; exact Nat.ne_of_lt (blk_lt (kp BK171.out)) : gb171 ≠ gb179))
       have n13_ := Aside0.mk ((by rw [hg]; exact Nat.ne_of_gt (blk_lt (kp BK171.out)) : gb179 ≠ gb171))
       have n14_ := Aside0.mk ((by rw [hg]; exact Nat.ne_of_lt (blk_lt (kp BK176.out)) : gb176 ≠ gb179))
       have n15_ := Aside0.mk ((by rw [hg]; exact Nat.ne_of_gt (blk_lt (kp BK176.out)) : gb179 ≠ gb176))
       clear BK169
       clear BK170
       clear BK171
       clear BK176
       clear HB
       have BK169 := n0_
       have BK170 := n1_
       have BK171 := n2_
       have BK176 := n3_
       have HB := n4_
       have BK179 := n5_
       have GW179 := n6_
       have GE179 := n7_
       have NB169_179 := n8_
       have NB179_169 := n9_
       have NB170_179 := n10_
       have NB179_170 := n11_
       have NB171_179 := n12_
       have NB179_171 := n13_
       have NB176_179 := n14_
       have NB179_176 := n15_
       clear n0_ n1_ n2_ n3_ n4_ n5_ n6_ n7_ n8_ n9_ n10_ n11_ n12_ n13_ n14_ n15_
       clear hb hbox hg
       refine hK.out _ _ ⟨(blk_cell BK169.out 0).trans rfl, (blk_cell BK169.out 1).trans rfl, (blk_cell BK169.out 2).trans rfl, (blk_cell BK169.out 3).trans rfl, (blk_cell BK169.out 4).trans rfl, (blk_cell BK170.out 0).trans rfl, (blk_cell BK170.out 1).trans rfl, (blk_cell BK170.out 2).trans rfl, (blk_cell BK170.out 3).trans rfl, (blk_cell BK170.out 4).trans rfl⟩ (fun hHeld => ?_)
       clear hK K
       refine norm_ (a' := ?_) ?_ ?_
       rotate_left
       ·show Act.put _ (some 10) _ = _
        simp only [Act.put, List.setIfInBounds_toArray, List.set_cons_zero, List.set_cons_succ, i64_w, i32_w]
        rfl
       refine one_ (i := 8) (N := some 38) #[true, true, true, true, true, true, true, true, true, true, false] rfl rfl (one_of HT_.out (by kernel_rfl)) (by decide) (fun K hK => ?_)
       refine goes_ Tryd.func50 (by kernel_rfl) rfl #[.int .i64 (wrap64 (Int.tdiv a0_2 t173)), .int .i64 (wrap64 (Int.tdiv a1_2 t172))] (by rfl) rfl rfl (by (try simp only [List.map_toArray, List.map_cons, List.map_nil]); first | done | rfl | (simp only [List.length_drop, List.length_take]; rfl)) ?_
       with_reducible refine (drachmref01_Mul.calls k (wrap64 (Int.tdiv a0_2 t173)) (wrap64 (Int.tdiv a1_2 t172)) t177 true _ A9.out).mono ?_
       rintro e w32 ⟨rfl, hb⟩
       refine ⟨_, rfl, ?_⟩
       replace BK169 := Aside0.mk (blk_below (kp BK169.out) hb)
       replace BK170 := Aside0.mk (blk_below (kp BK170.out) hb)
       replace BK171 := Aside0.mk (blk_below (kp BK171.out) hb)
       replace BK176 := Aside0.mk (blk_below (kp BK176.out) hb)
       replace BK179 := Aside0.mk (blk_below (kp BK179.out) hb)
       replace HB := Aside0.mk (below_step (bl HB.out) hb)
       (try clear hb)
       (try clear hb2)
       (try clear hk)
       (try clear hi)
       refine hK.out _ _ ⟨(blk_cell BK169.out 0).trans rfl, (blk_cell BK169.out 1).trans rfl, (blk_cell BK169.out 2).trans rfl, (blk_cell BK169.out 3).trans rfl, (blk_cell BK169.out 4).trans rfl, (blk_cell BK170.out 0).trans rfl, (blk_cell BK170.out 1).trans rfl, (blk_cell BK170.out 2).trans rfl, (blk_cell BK170.out 3).trans rfl, (blk_cell BK170.out 4).trans rfl⟩ (fun hHeld => ?_)
       clear hK K
       refine norm_ (a' := ?_) ?_ ?_
       rotate_left
       ·show Act.put _ (some 38) _ = _
        simp only [Act.put, List.setIfInBounds_toArray, List.set_cons_zero, List.set_cons_succ, i64_w, i32_w]
        rfl
       exact norm_ (by simp only [putAll, Act.put, List.setIfInBounds_toArray, List.set_cons_zero, List.set_cons_succ]) (hCont (gb179) _ ⟨hHeld, (kp BK169.out), (kp BK170.out), (kp BK171.out), (kp BK176.out), (kp BK179.out), GW179.out, GE179.out, NB169_179.out, NB179_169.out, NB170_179.out, NB179_170.out, NB171_179.out, NB179_171.out, NB176_179.out, NB179_176.out, (bl HB.out)⟩)
     rintro gb179 w33 ⟨hS_, h0_, h1_, h2_, h3_, h4_, h5_, h6_, h7_, h8_, h9_, h10_, h11_, h12_, h13_, h14_, h15_⟩
     have BK179 : Aside0 (w33.heap[gb179]? = some (.cells #[.int .i64 0, .bool false] 89 (0, 0))) := ⟨h4_⟩
     have GW179 : Aside0 (w.heap.size ≤ gb179) := ⟨h5_⟩
     have GE179 : Aside0 (w.heap.size ≤ gb179) := ⟨h6_⟩
     have NB169_179 : Aside0 (gb169 ≠ gb179) := ⟨h7_⟩
     have NB179_169 : Aside0 (gb179 ≠ gb169) := ⟨h8_⟩
     have NB170_179 : Aside0 (gb170 ≠ gb179) := ⟨h9_⟩
     have NB179_170 : Aside0 (gb179 ≠ gb170) := ⟨h10_⟩
     have NB171_179 : Aside0 (gb171 ≠ gb179) := ⟨h11_⟩
     have NB179_171 : Aside0 (gb179 ≠ gb171) := ⟨h12_⟩
     have NB176_179 : Aside0 (gb176 ≠ gb179) := ⟨h13_⟩
     have NB179_176 : Aside0 (gb179 ≠ gb176) := ⟨h14_⟩
     replace BK169 : Aside0 (w33.heap[gb169]? = some (.cells #[.int .i64 a0_0, .int .i64 a0_1, .int .i64 a0_2, .int .i64 a0_3, .int .i64 a0_4] 60 (0, 0))) := ⟨h0_⟩
     replace BK170 : Aside0 (w33.heap[gb170]? = some (.cells #[.int .i64 a1_0, .int .i64 a1_1, .int .i64 a1_2, .int .i64 a1_3, .int .i64 a1_4] 60 (0, 0))) := ⟨h1_⟩
     replace BK171 : Aside0 (w33.heap[gb171]? = some (.cells #[.int .i64 0, .int .i64 0, .int .i64 0, .int .i64 0] 30 (0, 0))) := ⟨h2_⟩
     replace BK176 : Aside0 (w33.heap[gb176]? = some (.cells #[.int .i64 t174, .bool true] 89 (0, 0))) := ⟨h3_⟩
     replace HB : Aside0 (Below w.heap.size w w33) := ⟨h15_⟩
     clear h0_ h1_ h2_ h3_ h4_ h5_ h6_ h7_ h8_ h9_ h10_ h11_ h12_ h13_ h14_ h15_
     have hHeld : w33.cell? ⟨gb169, 0, none⟩ = some (.int .i64 a0_0) ∧ w33.cell? ⟨gb169, 1, none⟩ = some (.int .i64 a0_1) ∧ w33.cell? ⟨gb169, 2, none⟩ = some (.int .i64 a0_2) ∧ w33.cell? ⟨gb169, 3, none⟩ = some (.int .i64 a0_3) ∧ w33.cell? ⟨gb169, 4, none⟩ = some (.int .i64 a0_4) ∧ w33.cell? ⟨gb170, 0, none⟩ = some (.int .i64 a1_0) ∧ w33.cell? ⟨gb170, 1, none⟩ = some (.int .i64 a1_1) ∧ w33.cell? ⟨gb170, 2, none⟩ = some (.int .i64 a1_2) ∧ w33.cell? ⟨gb170, 3, none⟩ = some (.int .i64 a1_3) ∧ w33.cell? ⟨gb170, 4, none⟩ = some (.int .i64 a1_4) := hS_
     refine norm_ (a' := ?_) ?_ ?_
     rotate_left
     ·simp only [putAll, Act.put, List.setIfInBounds_toArray, List.set_cons_zero, List.set_cons_succ]
      rfl
     refine one_ (i := 10) (N := none) #[true, true, true, true, true, true, true, true, true, true, true] rfl rfl (one_of HT_.out (by kernel_rfl)) (by decide) (fun K hK => ?_)
     have hs34 : w33.cell? ⟨gb179, 0, none⟩ = some (.int .i64 0) := (blk_cell BK179.out 0).trans rfl
     have hfs34 := blk_frozen BK179.out 0
     have hns34_0 := NB169_179.out
     have hns34_1 := NB170_179.out
     have hns34_2 := NB171_179.out
     have hns34_3 := NB176_179.out
     have hms34_0 := NB179_169.out
     have hms34_1 := NB179_170.out
     have hms34_2 := NB179_171.out
     have hms34_3 := NB179_176.out
     have hs35 : w33.cell? ⟨gb179, 1, none⟩ = some (.bool false) := (blk_cell BK179.out 1).trans rfl
     have hfs35 := blk_frozen BK179.out 1
     have hns35_0 := NB169_179.out
     have hns35_1 := NB170_179.out
     have hns35_2 := NB171_179.out
     have hns35_3 := NB176_179.out
     have hms35_0 := NB179_169.out
     have hms35_1 := NB179_170.out
     have hms35_2 := NB179_171.out
     have hms35_3 := NB179_176.out
     refine skip_ (w1 := ?_) (by rfl) rfl ?_ ?_
     rotate_left
     ·go_simp
      rfl
     refine hK.out _ _ ⟨((cell_far (p := ⟨gb179, _, none⟩) NB169_179.out _).trans (((cell_far (p := ⟨gb179, _, none⟩) NB169_179.out _).trans (hHeld.1)))), ((cell_far (p := ⟨gb179, _, none⟩) NB169_179.out _).trans (((cell_far (p := ⟨gb179, _, none⟩) NB169_179.out _).trans (hHeld.2.1)))), ((cell_far (p := ⟨gb179, _, none⟩) NB169_179.out _).trans (((cell_far (p := ⟨gb179, _, none⟩) NB169_179.out _).trans (hHeld.2.2.1)))), ((cell_far (p := ⟨gb179, _, none⟩) NB169_179.out _).trans (((cell_far (p := ⟨gb179, _, none⟩) NB169_179.out _).trans (hHeld.2.2.2.1)))), ((cell_far (p := ⟨gb179, _, none⟩) NB169_179.out _).trans (((cell_far (p := ⟨gb179, _, none⟩) NB169_179.out _).trans (hHeld.2.2.2.2.1)))), ((cell_far (p := ⟨gb179, _, none⟩) NB170_179.out _).trans (((cell_far (p := ⟨gb179, _, none⟩) NB170_179.out _).trans (hHeld.2.2.2.2.2.1)))), ((cell_far (p := ⟨gb179, _, none⟩) NB170_179.out _).trans (((cell_far (p := ⟨gb179, _, none⟩) NB170_179.out _).trans (hHeld.2.2.2.2.2.2.1)))), ((cell_far (p := ⟨gb179, _, none⟩) NB170_179.out _).trans (((cell_far (p := ⟨gb179, _, none⟩) NB170_179.out _).trans (hHeld.2.2.2.2.2.2.2.1)))), ((cell_far (p := ⟨gb179, _, none⟩) NB170_179.out _).trans (((cell_far (p := ⟨gb179, _, none⟩) NB170_179.out _).trans (hHeld.2.2.2.2.2.2.2.2.1)))), ((cell_far (p := ⟨gb179, _, none⟩) NB170_179.out _).trans (((cell_far (p := ⟨gb179, _, none⟩) NB170_179.out _).trans (hHeld.2.2.2.2.2.2.2.2.2))))⟩ (fun hHeld => ?_)
     clear hK K
     refine done_ (done_of HT_.out (by kernel_rfl)) ?_
     have hnb36 := NB176_169.out
     have hnc36 := NB169_176.out
     have hnb37 := NB176_170.out
     have hnc37 := NB170_176.out
     have hnb38 := NB176_171.out
     have hnc38 := NB171_176.out
     have hnb39 := NB176_179.out
     have hnc39 := NB179_176.out
     obtain ⟨hcz40_0, hcz40_1⟩ := hc2 BK176.out
     obtain ⟨hfz40_0, hfz40_1⟩ := hf2 BK176.out
     have hnb41 := NB179_169.out
     have hnc41 := NB169_179.out
     have hnb42 := NB179_170.out
     have hnc42 := NB170_179.out
     have hnb43 := NB179_171.out
     have hnc43 := NB171_179.out
     obtain ⟨hcz44_0, hcz44_1⟩ := hc2 BK179.out
     obtain ⟨hfz44_0, hfz44_1⟩ := hf2 BK179.out
     obtain ⟨hcz45_0, hcz45_1, hcz45_2, hcz45_3, hcz45_4⟩ := hc5 BK169.out
     obtain ⟨hfz45_0, hfz45_1, hfz45_2, hfz45_3, hfz45_4⟩ := hf5 BK169.out
     obtain ⟨hcz46_0, hcz46_1, hcz46_2, hcz46_3, hcz46_4⟩ := hc5 BK170.out
     obtain ⟨hfz46_0, hfz46_1, hfz46_2, hfz46_3, hfz46_4⟩ := hf5 BK170.out
     try go_wp2_with (first | ((with_reducible refine gate_callee (f := 29) rfl ?_); refine goesL_ (some 69) rfl rfl Tryd.func29 (by kernel_rfl) rfl #[.agg #[.int .i64 (wrap64 (a0_0 * a1_0)), .int .i64 t174, .int .i64 t177, .int .i64 (wrap64 (a0_3 + a1_3)), .int .i64 (wrap64 (a0_4 + a1_4))], .int .i64 a2] rfl (by (try simp only [List.map_toArray, List.map_cons, List.map_nil]); first | done | rfl | (simp only [List.length_drop, List.length_take]; rfl)) ?_; (with_reducible refine (drachmref02_form.calls k (wrap64 (a0_0 * a1_0)) t174 t177 (wrap64 (a0_3 + a1_3)) (wrap64 (a0_4 + a1_4)) a2 t180 t181 t182 t183 _ A12.out).mono ?_); rintro e w47 ⟨rfl, hb⟩; refine ⟨_, rfl, ?_⟩; replace BK169 := Aside0.mk (blk_below (kp BK169.out) hb); replace BK170 := Aside0.mk (blk_below (kp BK170.out) hb); replace BK171 := Aside0.mk (blk_below (kp BK171.out) hb); replace BK176 := Aside0.mk (blk_below (kp BK176.out) hb); replace BK179 := Aside0.mk (blk_below (kp (p2_1 (kp (p2_0 (kp BK179.out))))) hb); replace HB := Aside0.mk (below_step (bl HB.out) hb); (try clear hb); (try clear hb2); (try clear hk); (try clear hi); obtain ⟨hcz48_0, hcz48_1, hcz48_2, hcz48_3⟩ := hc4 BK171.out; obtain ⟨hfz48_0, hfz48_1, hfz48_2, hfz48_3⟩ := hf4 BK171.out))
     refine bodyPost_ret (results_cell_row rfl _ _ gb171 30 #[.int .i64 t180, .int .i64 t181, .int .i64 t182, .int .i64 t183] (0, 0) _ rfl (kp (p4_3 (kp (p4_2 (kp (p4_1 (kp (p4_0 (kp BK171.out))))))))) Tryd.underlying30 rfl (by kernel_rfl)) rfl ?_
     exact ⟨by first | rfl | (simp [errW_none, errW_some] <;> rfl) | (simp [*, errW_none, errW_some] <;> rfl), bl HB.out⟩
    ·replace c11 := Bool.eq_false_iff.mpr c11
     subst c11
     have H1 : (some (0, 0, 0, 10)) = some (r1, r2, r3, r4) := by rw [if_neg (show ¬ (false = true) by decide)] at H; exact H
     clear H
     have H := H1
     clear H1
     simp only [Option.some.injEq, Prod.mk.injEq] at H
     obtain ⟨rfl, rfl, rfl, rfl⟩ := H
     go_enter Tryd.func56, Tryd.ntmps56
     try go_wp2_with (first | ((with_reducible refine gate_dst (N := 3) rfl ?_); refine box_event ?hg (N := 3) ?hd (cs := #[.int .i64 a0_0, .int .i64 a0_1, .int .i64 a0_2, .int .i64 a0_3, .int .i64 a0_4]) (t := 60) ?hr ?_; (case hd => rfl); (case hg => rfl); (case hr => first | (go_simp; done) | (go_simp; rfl)); intro gb169 hg w49 hbox hb; have n0_ := Aside0.mk (below_step (bl HB.out) hb); have n1_ := Aside0.mk (hbox); have n2_ := Aside0.mk ((by rw [hg]; exact (below_size (bl HB.out)) : w.heap.size ≤ gb169)); have n3_ := Aside0.mk ((by rw [hg]; exact (below_size (bl HB.out)) : w.heap.size ≤ gb169)); clear HB; have HB := n0_; have BK169 := n1_; have GW169 := n2_; have GE169 := n3_; clear n0_ n1_ n2_ n3_; clear hb hbox hg) | ((with_reducible refine gate_dst (N := 4) rfl ?_); refine box_event ?hg (N := 4) ?hd (cs := #[.int .i64 a1_0, .int .i64 a1_1, .int .i64 a1_2, .int .i64 a1_3, .int .i64 a1_4]) (t := 60) ?hr ?_; (case hd => rfl); (case hg => rfl); (case hr => first | (go_simp; done) | (go_simp; rfl)); intro gb170 hg w50 hbox hb; have n0_ := Aside0.mk (blk_below (kp BK169.out) hb); have n1_ := Aside0.mk (below_step (bl HB.out) hb); have n2_ := Aside0.mk (hbox); have n3_ := Aside0.mk ((by rw [hg]; exact (below_size (bl HB.out)) : w.heap.size ≤ gb170)); have n4_ := Aside0.mk ((by rw [hg]; exact (below_size (bl HB.out)) : w.heap.size ≤ gb170)); have n5_ := Aside0.mk ((by rw [hg]; exact Nat.ne_of_lt (blk_lt (kp BK169.out)) : gb169 ≠ gb170)); have n6_ := Aside0.mk ((by rw [hg]; exact Nat.ne_of_gt (blk_lt (kp BK169.out)) : gb170 ≠ gb169)); clear BK169; clear HB; have BK169 := n0_; have HB := n1_; have BK170 := n2_; have GW170 := n3_; have GE170 := n4_; have NB169_170 := n5_; have NB170_169 := n6_; clear n0_ n1_ n2_ n3_ n4_ n5_ n6_; clear hb hbox hg) | ((with_reducible refine gate_dst (N := 6) rfl ?_); refine box_event ?hg (N := 6) ?hd (cs := #[.int .i64 0, .int .i64 0, .int .i64 0, .int .i64 0]) (t := 30) ?hr ?_; (case hd => rfl); (case hg => rfl); (case hr => first | (go_simp; done) | (go_simp; rfl)); intro gb171 hg w51 hbox hb; have n0_ := Aside0.mk (blk_below (kp BK169.out) hb); have n1_ := Aside0.mk (blk_below (kp BK170.out) hb); have n2_ := Aside0.mk (below_step (bl HB.out) hb); have n3_ := Aside0.mk (hbox); have n4_ := Aside0.mk ((by rw [hg]; exact (below_size (bl HB.out)) : w.heap.size ≤ gb171)); have n5_ := Aside0.mk ((by rw [hg]; exact (below_size (bl HB.out)) : w.heap.size ≤ gb171)); have n6_ := Aside0.mk ((by rw [hg]; exact Nat.ne_of_lt (blk_lt (kp BK169.out)) : gb169 ≠ gb171)); have n7_ := Aside0.mk ((by rw [hg]; exact Nat.ne_of_gt (blk_lt (kp BK169.out)) : gb171 ≠ gb169)); have n8_ := Aside0.mk ((by rw [hg]; exact Nat.ne_of_lt (blk_lt (kp BK170.out)) : gb170 ≠ gb171)); have n9_ := Aside0.mk ((by rw [hg]; exact Nat.ne_of_gt (blk_lt (kp BK170.out)) : gb171 ≠ gb170)); clear BK169; clear BK170; clear HB; have BK169 := n0_; have BK170 := n1_; have HB := n2_; have BK171 := n3_; have GW171 := n4_; have GE171 := n5_; have NB169_171 := n6_; have NB171_169 := n7_; have NB170_171 := n8_; have NB171_170 := n9_; clear n0_ n1_ n2_ n3_ n4_ n5_ n6_ n7_ n8_ n9_; clear hb hbox hg; have hnb52 := NB169_170.out; have hnc52 := NB170_169.out; have hnb53 := NB169_171.out; have hnc53 := NB171_169.out; obtain ⟨hcz54_0, hcz54_1, hcz54_2, hcz54_3, hcz54_4⟩ := hc5 BK169.out; obtain ⟨hfz54_0, hfz54_1, hfz54_2, hfz54_3, hfz54_4⟩ := hf5 BK169.out; have hnb55 := NB170_171.out; have hnc55 := NB171_170.out; obtain ⟨hcz56_0, hcz56_1, hcz56_2, hcz56_3, hcz56_4⟩ := hc5 BK170.out; obtain ⟨hfz56_0, hfz56_1, hfz56_2, hfz56_3, hfz56_4⟩ := hf5 BK170.out) | ((with_reducible refine gate_callee (f := 32) rfl ?_); refine goesL_ (some 15) rfl rfl Tryd.func32 (by kernel_rfl) rfl #[.int .i64 a0_1, .int .i64 a1_2] rfl (by (try simp only [List.map_toArray, List.map_cons, List.map_nil]); first | done | rfl | (simp only [List.length_drop, List.length_take]; rfl)) ?_; (with_reducible refine (drachmref01_Gcd.calls k a0_1 a1_2 t172 _ A4.out).mono ?_); rintro e w' ⟨rfl, ⟨nd, rfl⟩⟩; refine ⟨_, rfl, ?_⟩; (try (rw [drewN_self w51]; generalize hq_ : World.drewN w51 _ = w51; replace BK169 := Aside0.mk (kq hq_ BK169.out); replace BK170 := Aside0.mk (kq hq_ BK170.out); replace BK171 := Aside0.mk (kq hq_ BK171.out); replace HB := Aside0.mk (bq hq_ HB.out); clear hq_)); obtain ⟨hcz57_0, hcz57_1, hcz57_2, hcz57_3, hcz57_4⟩ := hc5 BK170.out; obtain ⟨hfz57_0, hfz57_1, hfz57_2, hfz57_3, hfz57_4⟩ := hf5 BK170.out; obtain ⟨hcz58_0, hcz58_1, hcz58_2, hcz58_3, hcz58_4⟩ := hc5 BK169.out; obtain ⟨hfz58_0, hfz58_1, hfz58_2, hfz58_3, hfz58_4⟩ := hf5 BK169.out) | ((with_reducible refine gate_callee (f := 32) rfl ?_); refine goesL_ (some 20) rfl rfl Tryd.func32 (by kernel_rfl) rfl #[.int .i64 a1_1, .int .i64 a0_2] rfl (by (try simp only [List.map_toArray, List.map_cons, List.map_nil]); first | done | rfl | (simp only [List.length_drop, List.length_take]; rfl)) ?_; (with_reducible refine (drachmref01_Gcd.calls k a1_1 a0_2 t173 _ A5.out).mono ?_); rintro e w' ⟨rfl, ⟨nd, rfl⟩⟩; refine ⟨_, rfl, ?_⟩; (try (rw [drewN_self w51]; generalize hq_ : World.drewN w51 _ = w51; replace BK169 := Aside0.mk (kq hq_ BK169.out); replace BK170 := Aside0.mk (kq hq_ BK170.out); replace BK171 := Aside0.mk (kq hq_ BK171.out); replace HB := Aside0.mk (bq hq_ HB.out); clear hq_))))
     (try (rw [drewN_self w51]; generalize hq_ : World.drewN w51 _ = w51; replace BK169 := Aside0.mk (kq hq_ BK169.out); replace BK170 := Aside0.mk (kq hq_ BK170.out); replace BK171 := Aside0.mk (kq hq_ BK171.out); replace HB := Aside0.mk (bq hq_ HB.out); clear hq_))
     replace BK169 := Aside0.mk (blk_drew BK169.out)
     replace BK170 := Aside0.mk (blk_drew BK170.out)
     replace BK171 := Aside0.mk (blk_drew BK171.out)
     replace HB := Aside0.mk (below_drew1 HB.out)
     refine start_ (n := 11) (S := fun w' => w'.cell? ⟨gb169, 0, none⟩ = some (.int .i64 a0_0) ∧ w'.cell? ⟨gb169, 1, none⟩ = some (.int .i64 a0_1) ∧ w'.cell? ⟨gb169, 2, none⟩ = some (.int .i64 a0_2) ∧ w'.cell? ⟨gb169, 3, none⟩ = some (.int .i64 a0_3) ∧ w'.cell? ⟨gb169, 4, none⟩ = some (.int .i64 a0_4) ∧ w'.cell? ⟨gb170, 0, none⟩ = some (.int .i64 a1_0) ∧ w'.cell? ⟨gb170, 1, none⟩ = some (.int .i64 a1_1) ∧ w'.cell? ⟨gb170, 2, none⟩ = some (.int .i64 a1_2) ∧ w'.cell? ⟨gb170, 3, none⟩ = some (.int .i64 a1_3) ∧ w'.cell? ⟨gb170, 4, none⟩ = some (.int .i64 a1_4)) (ds := []) #[false, false, false, false, false, false, false, false, false, false, false] (by kernel_rfl) rfl rfl ⟨(blk_cell BK169.out 0).trans rfl, (blk_cell BK169.out 1).trans rfl, (blk_cell BK169.out 2).trans rfl, (blk_cell BK169.out 3).trans rfl, (blk_cell BK169.out 4).trans rfl, (blk_cell BK170.out 0).trans rfl, (blk_cell BK170.out 1).trans rfl, (blk_cell BK170.out 2).trans rfl, (blk_cell BK170.out 3).trans rfl, (blk_cell BK170.out 4).trans rfl⟩ (fun hHeld => ?_); refine with_tabW drachmref02_times.tab3 drachmref02_times.bits3 (fun HT_ HW_ => ?_)
     generalize w51.drew = w59 at BK169 BK170 BK171 HB hHeld ⊢
     refine pure_ (i := 0) (N := some 21) (v := ?_) (a' := ?_) #[true, false, false, false, false, false, false, false, false, false, false] rfl rfl (any_of HT_.out (by kernel_rfl)) (fun _ _ _ h => h) (Or.inl ⟨by rfl, ?_⟩) ?_ ?_
     rotate_left
     ·intro w'
      go_simp
      with_reducible rfl
     rotate_left
     ·simp only [Act.put, List.setIfInBounds_toArray, List.set_cons_zero, List.set_cons_succ, i64_w, i32_w]
      rfl
     refine pure_ (i := 2) (N := some 23) (v := ?_) (a' := ?_) #[true, false, true, false, false, false, false, false, false, false, false] rfl rfl (any_of HT_.out (by kernel_rfl)) (fun _ _ _ h => h) (Or.inl ⟨by rfl, ?_⟩) ?_ ?_
     rotate_left
     ·intro w'
      go_simp
      with_reducible rfl
     rotate_left
     ·simp only [Act.put, List.setIfInBounds_toArray, List.set_cons_zero, List.set_cons_succ, i64_w, i32_w]
      rfl
     refine pure_ (i := 4) (N := some 25) (v := ?_) (a' := ?_) #[true, false, true, false, true, false, false, false, false, false, false] rfl rfl (any_of HT_.out (by kernel_rfl)) (fun _ _ _ h => h) (Or.inl ⟨by rfl, ?_⟩) ?_ ?_
     rotate_left
     ·intro w'
      go_simp
      with_reducible rfl
     rotate_left
     ·simp only [Act.put, List.setIfInBounds_toArray, List.set_cons_zero, List.set_cons_succ, i64_w, i32_w]
      rfl
     refine pure_ (i := 6) (N := some 27) (v := ?_) (a' := ?_) #[true, false, true, false, true, false, true, false, false, false, false] rfl rfl (any_of HT_.out (by kernel_rfl)) (fun _ _ _ h => h) (Or.inl ⟨by rfl, ?_⟩) ?_ ?_
     rotate_left
     ·intro w'
      go_simp
      with_reducible rfl
     rotate_left
     ·simp only [Act.put, List.setIfInBounds_toArray, List.set_cons_zero, List.set_cons_succ, i64_w, i32_w]
      rfl
     refine take_ (i := 1) (N := some 22) (v := ?_) (a' := ?_) #[true, true, true, false, true, false, true, false, false, false, false] rfl rfl (take_ofW HT_.out HW_.out (by kernel_rfl)) (fun _ _ _ h => h) (Or.inl ⟨by rfl, ?_⟩) hHeld ?_ ?_
     rotate_left
     ·rintro w' ⟨s0, s1, s2, s3, s4, s5, s6, s7, s8, s9⟩
      go_simp
      with_reducible rfl
     rotate_left
     ·simp only [Act.put, List.setIfInBounds_toArray, List.set_cons_zero, List.set_cons_succ, i64_w, i32_w]
      rfl
     refine pure_ (i := 3) (N := some 24) (v := ?_) (a' := ?_) #[true, true, true, true, true, false, true, false, false, false, false] rfl rfl (any_of HT_.out (by kernel_rfl)) (fun _ _ _ h => h) (Or.inl ⟨by rfl, ?_⟩) ?_ ?_
     rotate_left
     ·intro w'
      go_simp
      with_reducible rfl
     rotate_left
     ·simp only [Act.put, List.setIfInBounds_toArray, List.set_cons_zero, List.set_cons_succ, i64_w, i32_w]
      rfl
     refine take_ (i := 5) (N := some 26) (v := ?_) (a' := ?_) #[true, true, true, true, true, true, true, false, false, false, false] rfl rfl (take_ofW HT_.out HW_.out (by kernel_rfl)) (fun _ _ _ h => h) (Or.inl ⟨by rfl, ?_⟩) hHeld ?_ ?_
     rotate_left
     ·rintro w' ⟨s0, s1, s2, s3, s4, s5, s6, s7, s8, s9⟩
      go_simp
      with_reducible rfl
     rotate_left
     ·simp only [Act.put, List.setIfInBounds_toArray, List.set_cons_zero, List.set_cons_succ, i64_w, i32_w]
      rfl
     refine pure_ (i := 7) (N := some 28) (v := ?_) (a' := ?_) #[true, true, true, true, true, true, true, true, false, false, false] rfl rfl (any_of HT_.out (by kernel_rfl)) (fun _ _ _ h => h) (Or.inl ⟨by rfl, ?_⟩) ?_ ?_
     rotate_left
     ·intro w'
      go_simp
      with_reducible rfl
     rotate_left
     ·simp only [Act.put, List.setIfInBounds_toArray, List.set_cons_zero, List.set_cons_succ, i64_w, i32_w]
      rfl
     refine join_ (σ := Nat) 1 #[true, true, true, true, true, true, true, true, true, true, false] (fun s_ => [(29, .agg #[.int .i64 t174, .bool true]), (9, .pointer (some ⟨s_, 0, none⟩))]) (fun s_ w' => (w'.cell? ⟨gb169, 0, none⟩ = some (.int .i64 a0_0) ∧ w'.cell? ⟨gb169, 1, none⟩ = some (.int .i64 a0_1) ∧ w'.cell? ⟨gb169, 2, none⟩ = some (.int .i64 a0_2) ∧ w'.cell? ⟨gb169, 3, none⟩ = some (.int .i64 a0_3) ∧ w'.cell? ⟨gb169, 4, none⟩ = some (.int .i64 a0_4) ∧ w'.cell? ⟨gb170, 0, none⟩ = some (.int .i64 a1_0) ∧ w'.cell? ⟨gb170, 1, none⟩ = some (.int .i64 a1_1) ∧ w'.cell? ⟨gb170, 2, none⟩ = some (.int .i64 a1_2) ∧ w'.cell? ⟨gb170, 3, none⟩ = some (.int .i64 a1_3) ∧ w'.cell? ⟨gb170, 4, none⟩ = some (.int .i64 a1_4)) ∧ (w'.heap[gb169]? = some (.cells #[.int .i64 a0_0, .int .i64 a0_1, .int .i64 a0_2, .int .i64 a0_3, .int .i64 a0_4] 60 (0, 0))) ∧ (w'.heap[gb170]? = some (.cells #[.int .i64 a1_0, .int .i64 a1_1, .int .i64 a1_2, .int .i64 a1_3, .int .i64 a1_4] 60 (0, 0))) ∧ (w'.heap[gb171]? = some (.cells #[.int .i64 0, .int .i64 0, .int .i64 0, .int .i64 0] 30 (0, 0))) ∧ (w'.heap[s_]? = some (.cells #[.int .i64 0, .bool false] 89 (0, 0))) ∧ (w.heap.size ≤ s_) ∧ (w.heap.size ≤ s_) ∧ (gb169 ≠ s_) ∧ (s_ ≠ gb169) ∧ (gb170 ≠ s_) ∧ (s_ ≠ gb170) ∧ (gb171 ≠ s_) ∧ (s_ ≠ gb171) ∧ (Below w.heap.size w w')) ?_ ?_
     rotate_left
     ·intro hCont
      refine two_ (i := 8) (j := 9) (Ni := some 29) (Nj := some 9) #[true, true, true, true, true, true, true, true, true, false, false] #[true, true, true, true, true, true, true, true, false, true, false] rfl rfl rfl rfl (two_of HT_.out (by kernel_rfl)) (by decide) (by decide) (fun K hK => ?_) (fun K hK => ?_)
      ·skip
       refine goes_ Tryd.func50 (by kernel_rfl) rfl #[.int .i64 (wrap64 (Int.tdiv a0_1 t172)), .int .i64 (wrap64 (Int.tdiv a1_1 t173))] (by rfl) rfl rfl (by (try simp only [List.map_toArray, List.map_cons, List.map_nil]); first | done | rfl | (simp only [List.length_drop, List.length_take]; rfl)) ?_
       with_reducible refine (drachmref01_Mul.calls k (wrap64 (Int.tdiv a0_1 t172)) (wrap64 (Int.tdiv a1_1 t173)) t174 true _ A8.out).mono ?_
       rintro e w60 ⟨rfl, hb⟩
       refine ⟨_, rfl, ?_⟩
       replace BK169 := Aside0.mk (blk_below (kp BK169.out) hb)
       replace BK170 := Aside0.mk (blk_below (kp BK170.out) hb)
       replace BK171 := Aside0.mk (blk_below (kp BK171.out) hb)
       replace HB := Aside0.mk (below_step (bl HB.out) hb)
       (try clear hb)
       (try clear hb2)
       (try clear hk)
       (try clear hi)
       refine hK.out _ _ ⟨(blk_cell BK169.out 0).trans rfl, (blk_cell BK169.out 1).trans rfl, (blk_cell BK169.out 2).trans rfl, (blk_cell BK169.out 3).trans rfl, (blk_cell BK169.out 4).trans rfl, (blk_cell BK170.out 0).trans rfl, (blk_cell BK170.out 1).trans rfl, (blk_cell BK170.out 2).trans rfl, (blk_cell BK170.out 3).trans rfl, (blk_cell BK170.out 4).trans rfl⟩ (fun hHeld => ?_)
       clear hK K
       refine norm_ (a' := ?_) ?_ ?_
       rotate_left
       ·show Act.put _ (some 29) _ = _
        simp only [Act.put, List.setIfInBounds_toArray, List.set_cons_zero, List.set_cons_succ, i64_w, i32_w]
        rfl
       refine one_ (i := 9) (N := some 9) #[true, true, true, true, true, true, true, true, true, true, false] rfl rfl (one_of HT_.out (by kernel_rfl)) (by decide) (fun K hK => ?_)
       refine box_step ?hg (N := 9) ?hd (cs := #[.int .i64 0, .bool false]) (t := 89) ?hr ?_; (case hd => rfl); (case hg => rfl); (case hr => first | (go_simp; done) | (go_simp; rfl))
       intro gb176 hg w61 hbox hb
       have n0_ := Aside0.mk (blk_below (kp BK169.out) hb)
       have n1_ := Aside0.mk (blk_below (kp BK170.out) hb)
       have n2_ := Aside0.mk (blk_below (kp BK171.out) hb)
       have n3_ := Aside0.mk (below_step (bl HB.out) hb)
       have n4_ := Aside0.mk (hbox)
       have n5_ := Aside0.mk ((by rw [hg]; exact (below_size (bl HB.out)) : w.heap.size ≤ gb176))
       have n6_ := Aside0.mk ((by rw [hg]; exact (below_size (bl HB.out)) : w.heap.size ≤ gb176))
       have n7_ := Aside0.mk ((by rw [hg]; exact Nat.ne_of_lt (blk_lt (kp BK169.out)) : gb169 ≠ gb176))
       have n8_ := Aside0.mk ((by rw [hg]; exact Nat.ne_of_gt (blk_lt (kp BK169.out)) : gb176 ≠ gb169))
       have n9_ := Aside0.mk ((by rw [hg]; exact Nat.ne_of_lt (blk_lt (kp BK170.out)) : gb170 ≠ gb176))
       have n10_ := Aside0.mk ((by rw [hg]; exact Nat.ne_of_gt (blk_lt (kp BK170.out)) : gb176 ≠ gb170))
       have n11_ := Aside0.mk ((by rw [hg]; exact Nat.ne_of_lt (blk_lt (kp BK171.out)) : gb171 ≠ gb176))
       have n12_ := Aside0.mk ((by rw [hg]; exact Nat.ne_of_gt (blk_lt (kp BK171.out)) : gb176 ≠ gb171))
       clear BK169
       clear BK170
       clear BK171
       clear HB
       have BK169 := n0_
       have BK170 := n1_
       have BK171 := n2_
       have HB := n3_
       have BK176 := n4_
       have GW176 := n5_
       have GE176 := n6_
       have NB169_176 := n7_
       have NB176_169 := n8_
       have NB170_176 := n9_
       have NB176_170 := n10_
       have NB171_176 := n11_
       have NB176_171 := n12_
       clear n0_ n1_ n2_ n3_ n4_ n5_ n6_ n7_ n8_ n9_ n10_ n11_ n12_
       clear hb hbox hg
       refine hK.out _ _ ⟨(blk_cell BK169.out 0).trans rfl, (blk_cell BK169.out 1).trans rfl, (blk_cell BK169.out 2).trans rfl, (blk_cell BK169.out 3).trans rfl, (blk_cell BK169.out 4).trans rfl, (blk_cell BK170.out 0).trans rfl, (blk_cell BK170.out 1).trans rfl, (blk_cell BK170.out 2).trans rfl, (blk_cell BK170.out 3).trans rfl, (blk_cell BK170.out 4).trans rfl⟩ (fun hHeld => ?_)
       clear hK K
       refine norm_ (a' := ?_) ?_ ?_
       rotate_left
       ·show Act.put _ (some 9) _ = _
        simp only [Act.put, List.setIfInBounds_toArray, List.set_cons_zero, List.set_cons_succ, i64_w, i32_w]
        rfl
       exact norm_ (by simp only [putAll, Act.put, List.setIfInBounds_toArray, List.set_cons_zero, List.set_cons_succ]) (hCont (gb176) _ ⟨hHeld, (kp BK169.out), (kp BK170.out), (kp BK171.out), (kp BK176.out), GW176.out, GE176.out, NB169_176.out, NB176_169.out, NB170_176.out, NB176_170.out, NB171_176.out, NB176_171.out, (bl HB.out)⟩)
      ·skip
       refine box_step ?hg (N := 9) ?hd (cs := #[.int .i64 0, .bool false]) (t := 89) ?hr ?_; (case hd => rfl); (case hg => rfl); (case hr => first | (go_simp; done) | (go_simp; rfl))
       intro gb176 hg w60 hbox hb
       have n0_ := Aside0.mk (blk_below (kp BK169.out) hb)
       have n1_ := Aside0.mk (blk_below (kp BK170.out) hb)
       have n2_ := Aside0.mk (blk_below (kp BK171.out) hb)
       have n3_ := Aside0.mk (below_step (bl HB.out) hb)
       have n4_ := Aside0.mk (hbox)
       have n5_ := Aside0.mk ((by rw [hg]; exact (below_size (bl HB.out)) : w.heap.size ≤ gb176))
       have n6_ := Aside0.mk ((by rw [hg]; exact (below_size (bl HB.out)) : w.heap.size ≤ gb176))
       have n7_ := Aside0.mk ((by rw [hg]; exact Nat.ne_of_lt (blk_lt (kp BK169.out)) : gb169 ≠ gb176))
       have n8_ := Aside0.mk ((by rw [hg]; exact Nat.ne_of_gt (blk_lt (kp BK169.out)) : gb176 ≠ gb169))
       have n9_ := Aside0.mk ((by rw [hg]; exact Nat.ne_of_lt (blk_lt (kp BK170.out)) : gb170 ≠ gb176))
       have n10_ := Aside0.mk ((by rw [hg]; exact Nat.ne_of_gt (blk_lt (kp BK170.out)) : gb176 ≠ gb170))
       have n11_ := Aside0.mk ((by rw [hg]; exact Nat.ne_of_lt (blk_lt (kp BK171.out)) : gb171 ≠ gb176))
       have n12_ := Aside0.mk ((by rw [hg]; exact Nat.ne_of_gt (blk_lt (kp BK171.out)) : gb176 ≠ gb171))
       clear BK169
       clear BK170
       clear BK171
       clear HB
       have BK169 := n0_
       have BK170 := n1_
       have BK171 := n2_
       have HB := n3_
       have BK176 := n4_
       have GW176 := n5_
       have GE176 := n6_
       have NB169_176 := n7_
       have NB176_169 := n8_
       have NB170_176 := n9_
       have NB176_170 := n10_
       have NB171_176 := n11_
       have NB176_171 := n12_
       clear n0_ n1_ n2_ n3_ n4_ n5_ n6_ n7_ n8_ n9_ n10_ n11_ n12_
       clear hb hbox hg
       refine hK.out _ _ ⟨(blk_cell BK169.out 0).trans rfl, (blk_cell BK169.out 1).trans rfl, (blk_cell BK169.out 2).trans rfl, (blk_cell BK169.out 3).trans rfl, (blk_cell BK169.out 4).trans rfl, (blk_cell BK170.out 0).trans rfl, (blk_cell BK170.out 1).trans rfl, (blk_cell BK170.out 2).trans rfl, (blk_cell BK170.out 3).trans rfl, (blk_cell BK170.out 4).trans rfl⟩ (fun hHeld => ?_)
       clear hK K
       refine norm_ (a' := ?_) ?_ ?_
       rotate_left
       ·show Act.put _ (some 9) _ = _
        simp only [Act.put, List.setIfInBounds_toArray, List.set_cons_zero, List.set_cons_succ, i64_w, i32_w]
        rfl
       refine one_ (i := 8) (N := some 29) #[true, true, true, true, true, true, true, true, true, true, false] rfl rfl (one_of HT_.out (by kernel_rfl)) (by decide) (fun K hK => ?_)
       refine goes_ Tryd.func50 (by kernel_rfl) rfl #[.int .i64 (wrap64 (Int.tdiv a0_1 t172)), .int .i64 (wrap64 (Int.tdiv a1_1 t173))] (by rfl) rfl rfl (by (try simp only [List.map_toArray, List.map_cons, List.map_nil]); first | done | rfl | (simp only [List.length_drop, List.length_take]; rfl)) ?_
       with_reducible refine (drachmref01_Mul.calls k (wrap64 (Int.tdiv a0_1 t172)) (wrap64 (Int.tdiv a1_1 t173)) t174 true _ A8.out).mono ?_
       rintro e w61 ⟨rfl, hb⟩
       refine ⟨_, rfl, ?_⟩
       replace BK169 := Aside0.mk (blk_below (kp BK169.out) hb)
       replace BK170 := Aside0.mk (blk_below (kp BK170.out) hb)
       replace BK171 := Aside0.mk (blk_below (kp BK171.out) hb)
       replace BK176 := Aside0.mk (blk_below (kp BK176.out) hb)
       replace HB := Aside0.mk (below_step (bl HB.out) hb)
       (try clear hb)
       (try clear hb2)
       (try clear hk)
       (try clear hi)
       refine hK.out _ _ ⟨(blk_cell BK169.out 0).trans rfl, (blk_cell BK169.out 1).trans rfl, (blk_cell BK169.out 2).trans rfl, (blk_cell BK169.out 3).trans rfl, (blk_cell BK169.out 4).trans rfl, (blk_cell BK170.out 0).trans rfl, (blk_cell BK170.out 1).trans rfl, (blk_cell BK170.out 2).trans rfl, (blk_cell BK170.out 3).trans rfl, (blk_cell BK170.out 4).trans rfl⟩ (fun hHeld => ?_)
       clear hK K
       refine norm_ (a' := ?_) ?_ ?_
       rotate_left
       ·show Act.put _ (some 29) _ = _
        simp only [Act.put, List.setIfInBounds_toArray, List.set_cons_zero, List.set_cons_succ, i64_w, i32_w]
        rfl
       exact norm_ (by simp only [putAll, Act.put, List.setIfInBounds_toArray, List.set_cons_zero, List.set_cons_succ]) (hCont (gb176) _ ⟨hHeld, (kp BK169.out), (kp BK170.out), (kp BK171.out), (kp BK176.out), GW176.out, GE176.out, NB169_176.out, NB176_169.out, NB170_176.out, NB176_170.out, NB171_176.out, NB176_171.out, (bl HB.out)⟩)
     rintro gb176 w62 ⟨hS_, h0_, h1_, h2_, h3_, h4_, h5_, h6_, h7_, h8_, h9_, h10_, h11_, h12_⟩
     have BK176 : Aside0 (w62.heap[gb176]? = some (.cells #[.int .i64 0, .bool false] 89 (0, 0))) := ⟨h3_⟩
     have GW176 : Aside0 (w.heap.size ≤ gb176) := ⟨h4_⟩
     have GE176 : Aside0 (w.heap.size ≤ gb176) := ⟨h5_⟩
     have NB169_176 : Aside0 (gb169 ≠ gb176) := ⟨h6_⟩
     have NB176_169 : Aside0 (gb176 ≠ gb169) := ⟨h7_⟩
     have NB170_176 : Aside0 (gb170 ≠ gb176) := ⟨h8_⟩
     have NB176_170 : Aside0 (gb176 ≠ gb170) := ⟨h9_⟩
     have NB171_176 : Aside0 (gb171 ≠ gb176) := ⟨h10_⟩
     have NB176_171 : Aside0 (gb176 ≠ gb171) := ⟨h11_⟩
     replace BK169 : Aside0 (w62.heap[gb169]? = some (.cells #[.int .i64 a0_0, .int .i64 a0_1, .int .i64 a0_2, .int .i64 a0_3, .int .i64 a0_4] 60 (0, 0))) := ⟨h0_⟩
     replace BK170 : Aside0 (w62.heap[gb170]? = some (.cells #[.int .i64 a1_0, .int .i64 a1_1, .int .i64 a1_2, .int .i64 a1_3, .int .i64 a1_4] 60 (0, 0))) := ⟨h1_⟩
     replace BK171 : Aside0 (w62.heap[gb171]? = some (.cells #[.int .i64 0, .int .i64 0, .int .i64 0, .int .i64 0] 30 (0, 0))) := ⟨h2_⟩
     replace HB : Aside0 (Below w.heap.size w w62) := ⟨h12_⟩
     clear h0_ h1_ h2_ h3_ h4_ h5_ h6_ h7_ h8_ h9_ h10_ h11_ h12_
     have hHeld : w62.cell? ⟨gb169, 0, none⟩ = some (.int .i64 a0_0) ∧ w62.cell? ⟨gb169, 1, none⟩ = some (.int .i64 a0_1) ∧ w62.cell? ⟨gb169, 2, none⟩ = some (.int .i64 a0_2) ∧ w62.cell? ⟨gb169, 3, none⟩ = some (.int .i64 a0_3) ∧ w62.cell? ⟨gb169, 4, none⟩ = some (.int .i64 a0_4) ∧ w62.cell? ⟨gb170, 0, none⟩ = some (.int .i64 a1_0) ∧ w62.cell? ⟨gb170, 1, none⟩ = some (.int .i64 a1_1) ∧ w62.cell? ⟨gb170, 2, none⟩ = some (.int .i64 a1_2) ∧ w62.cell? ⟨gb170, 3, none⟩ = some (.int .i64 a1_3) ∧ w62.cell? ⟨gb170, 4, none⟩ = some (.int .i64 a1_4) := hS_
     refine norm_ (a' := ?_) ?_ ?_
     rotate_left
     ·simp only [putAll, Act.put, List.setIfInBounds_toArray, List.set_cons_zero, List.set_cons_succ]
      rfl
     refine one_ (i := 10) (N := none) #[true, true, true, true, true, true, true, true, true, true, true] rfl rfl (one_of HT_.out (by kernel_rfl)) (by decide) (fun K hK => ?_)
     have hs63 : w62.cell? ⟨gb176, 0, none⟩ = some (.int .i64 0) := (blk_cell BK176.out 0).trans rfl
     have hfs63 := blk_frozen BK176.out 0
     have hns63_0 := NB169_176.out
     have hns63_1 := NB170_176.out
     have hns63_2 := NB171_176.out
     have hms63_0 := NB176_169.out
     have hms63_1 := NB176_170.out
     have hms63_2 := NB176_171.out
     have hs64 : w62.cell? ⟨gb176, 1, none⟩ = some (.bool false) := (blk_cell BK176.out 1).trans rfl
     have hfs64 := blk_frozen BK176.out 1
     have hns64_0 := NB169_176.out
     have hns64_1 := NB170_176.out
     have hns64_2 := NB171_176.out
     have hms64_0 := NB176_169.out
     have hms64_1 := NB176_170.out
     have hms64_2 := NB176_171.out
     refine skip_ (w1 := ?_) (by rfl) rfl ?_ ?_
     rotate_left
     ·go_simp
      rfl
     refine hK.out _ _ ⟨((cell_far (p := ⟨gb176, _, none⟩) NB169_176.out _).trans (((cell_far (p := ⟨gb176, _, none⟩) NB169_176.out _).trans (hHeld.1)))), ((cell_far (p := ⟨gb176, _, none⟩) NB169_176.out _).trans (((cell_far (p := ⟨gb176, _, none⟩) NB169_176.out _).trans (hHeld.2.1)))), ((cell_far (p := ⟨gb176, _, none⟩) NB169_176.out _).trans (((cell_far (p := ⟨gb176, _, none⟩) NB169_176.out _).trans (hHeld.2.2.1)))), ((cell_far (p := ⟨gb176, _, none⟩) NB169_176.out _).trans (((cell_far (p := ⟨gb176, _, none⟩) NB169_176.out _).trans (hHeld.2.2.2.1)))), ((cell_far (p := ⟨gb176, _, none⟩) NB169_176.out _).trans (((cell_far (p := ⟨gb176, _, none⟩) NB169_176.out _).trans (hHeld.2.2.2.2.1)))), ((cell_far (p := ⟨gb176, _, none⟩) NB170_176.out _).trans (((cell_far (p := ⟨gb176, _, none⟩) NB170_176.out _).trans (hHeld.2.2.2.2.2.1)))), ((cell_far (p := ⟨gb176, _, none⟩) NB170_176.out _).trans (((cell_far (p := ⟨gb176, _, none⟩) NB170_176.out _).trans (hHeld.2.2.2.2.2.2.1)))), ((cell_far (p := ⟨gb176, _, none⟩) NB170_176.out _).trans (((cell_far (p := ⟨gb176, _, none⟩) NB170_176.out _).trans (hHeld.2.2.2.2.2.2.2.1)))), ((cell_far (p := ⟨gb176, _, none⟩) NB170_176.out _).trans (((cell_far (p := ⟨gb176, _, none⟩) NB170_176.out _).trans (hHeld.2.2.2.2.2.2.2.2.1)))), ((cell_far (p := ⟨gb176, _, none⟩) NB170_176.out _).trans (((cell_far (p := ⟨gb176, _, none⟩) NB170_176.out _).trans (hHeld.2.2.2.2.2.2.2.2.2))))⟩ (fun hHeld => ?_)
     clear hK K
     refine done_ (done_of HT_.out (by kernel_rfl)) ?_
     try go_wp2
     have n0_ : Aside0 (((w62.setCell ⟨gb176, 0, none⟩ (.int .i64 t174)).setCell ⟨gb176, 1, none⟩ (.bool true)).heap[gb169]? = some (.cells #[.int .i64 a0_0, .int .i64 a0_1, .int .i64 a0_2, .int .i64 a0_3, .int .i64 a0_4] 60 (0, 0))) := ⟨kp BK169.out⟩
     have n1_ : Aside0 (((w62.setCell ⟨gb176, 0, none⟩ (.int .i64 t174)).setCell ⟨gb176, 1, none⟩ (.bool true)).heap[gb170]? = some (.cells #[.int .i64 a1_0, .int .i64 a1_1, .int .i64 a1_2, .int .i64 a1_3, .int .i64 a1_4] 60 (0, 0))) := ⟨kp BK170.out⟩
     have n2_ : Aside0 (((w62.setCell ⟨gb176, 0, none⟩ (.int .i64 t174)).setCell ⟨gb176, 1, none⟩ (.bool true)).heap[gb171]? = some (.cells #[.int .i64 0, .int .i64 0, .int .i64 0, .int .i64 0] 30 (0, 0))) := ⟨kp BK171.out⟩
     have n3_ : Aside0 (((w62.setCell ⟨gb176, 0, none⟩ (.int .i64 t174)).setCell ⟨gb176, 1, none⟩ (.bool true)).heap[gb176]? = some (.cells #[.int .i64 t174, .bool true] 89 (0, 0))) := ⟨kp (p2_1 (kp (p2_0 (kp BK176.out))))⟩
     have n4_ : Aside0 (Below w.heap.size w ((w62.setCell ⟨gb176, 0, none⟩ (.int .i64 t174)).setCell ⟨gb176, 1, none⟩ (.bool true))) := ⟨bl HB.out⟩
     (try clear BK169)
     (try clear BK170)
     (try clear BK171)
     (try clear BK176)
     (try clear HB)
     generalize ((w62.setCell ⟨gb176, 0, none⟩ (.int .i64 t174)).setCell ⟨gb176, 1, none⟩ (.bool true)) = w65 at n0_ n1_ n2_ n3_ n4_ ⊢
     have BK169 := n0_
     have BK170 := n1_
     have BK171 := n2_
     have BK176 := n3_
     have HB := n4_
     clear n0_ n1_ n2_ n3_ n4_
     (try (rw [drewN_self w65]; generalize hq_ : World.drewN w65 _ = w65; replace BK169 := Aside0.mk (kq hq_ BK169.out); replace BK170 := Aside0.mk (kq hq_ BK170.out); replace BK171 := Aside0.mk (kq hq_ BK171.out); replace BK176 := Aside0.mk (kq hq_ BK176.out); replace HB := Aside0.mk (bq hq_ HB.out); clear hq_))
     replace BK169 := Aside0.mk (blk_drew BK169.out)
     replace BK170 := Aside0.mk (blk_drew BK170.out)
     replace BK171 := Aside0.mk (blk_drew BK171.out)
     replace BK176 := Aside0.mk (blk_drew BK176.out)
     replace HB := Aside0.mk (below_drew1 HB.out)
     refine start_ (n := 11) (S := fun w' => w'.cell? ⟨gb169, 0, none⟩ = some (.int .i64 a0_0) ∧ w'.cell? ⟨gb169, 1, none⟩ = some (.int .i64 a0_1) ∧ w'.cell? ⟨gb169, 2, none⟩ = some (.int .i64 a0_2) ∧ w'.cell? ⟨gb169, 3, none⟩ = some (.int .i64 a0_3) ∧ w'.cell? ⟨gb169, 4, none⟩ = some (.int .i64 a0_4) ∧ w'.cell? ⟨gb170, 0, none⟩ = some (.int .i64 a1_0) ∧ w'.cell? ⟨gb170, 1, none⟩ = some (.int .i64 a1_1) ∧ w'.cell? ⟨gb170, 2, none⟩ = some (.int .i64 a1_2) ∧ w'.cell? ⟨gb170, 3, none⟩ = some (.int .i64 a1_3) ∧ w'.cell? ⟨gb170, 4, none⟩ = some (.int .i64 a1_4)) (ds := []) #[false, false, false, false, false, false, false, false, false, false, false] (by kernel_rfl) rfl rfl ⟨(blk_cell BK169.out 0).trans rfl, (blk_cell BK169.out 1).trans rfl, (blk_cell BK169.out 2).trans rfl, (blk_cell BK169.out 3).trans rfl, (blk_cell BK169.out 4).trans rfl, (blk_cell BK170.out 0).trans rfl, (blk_cell BK170.out 1).trans rfl, (blk_cell BK170.out 2).trans rfl, (blk_cell BK170.out 3).trans rfl, (blk_cell BK170.out 4).trans rfl⟩ (fun hHeld => ?_); refine with_tabW drachmref02_times.tab4 drachmref02_times.bits4 (fun HT_ HW_ => ?_)
     generalize w65.drew = w66 at BK169 BK170 BK171 BK176 HB hHeld ⊢
     refine pure_ (i := 0) (N := some 30) (v := ?_) (a' := ?_) #[true, false, false, false, false, false, false, false, false, false, false] rfl rfl (any_of HT_.out (by kernel_rfl)) (fun _ _ _ h => h) (Or.inl ⟨by rfl, ?_⟩) ?_ ?_
     rotate_left
     ·intro w'
      go_simp
      with_reducible rfl
     rotate_left
     ·simp only [Act.put, List.setIfInBounds_toArray, List.set_cons_zero, List.set_cons_succ, i64_w, i32_w]
      rfl
     refine pure_ (i := 2) (N := some 32) (v := ?_) (a' := ?_) #[true, false, true, false, false, false, false, false, false, false, false] rfl rfl (any_of HT_.out (by kernel_rfl)) (fun _ _ _ h => h) (Or.inl ⟨by rfl, ?_⟩) ?_ ?_
     rotate_left
     ·intro w'
      go_simp
      with_reducible rfl
     rotate_left
     ·simp only [Act.put, List.setIfInBounds_toArray, List.set_cons_zero, List.set_cons_succ, i64_w, i32_w]
      rfl
     refine pure_ (i := 4) (N := some 34) (v := ?_) (a' := ?_) #[true, false, true, false, true, false, false, false, false, false, false] rfl rfl (any_of HT_.out (by kernel_rfl)) (fun _ _ _ h => h) (Or.inl ⟨by rfl, ?_⟩) ?_ ?_
     rotate_left
     ·intro w'
      go_simp
      with_reducible rfl
     rotate_left
     ·simp only [Act.put, List.setIfInBounds_toArray, List.set_cons_zero, List.set_cons_succ, i64_w, i32_w]
      rfl
     refine pure_ (i := 6) (N := some 36) (v := ?_) (a' := ?_) #[true, false, true, false, true, false, true, false, false, false, false] rfl rfl (any_of HT_.out (by kernel_rfl)) (fun _ _ _ h => h) (Or.inl ⟨by rfl, ?_⟩) ?_ ?_
     rotate_left
     ·intro w'
      go_simp
      with_reducible rfl
     rotate_left
     ·simp only [Act.put, List.setIfInBounds_toArray, List.set_cons_zero, List.set_cons_succ, i64_w, i32_w]
      rfl
     refine take_ (i := 1) (N := some 31) (v := ?_) (a' := ?_) #[true, true, true, false, true, false, true, false, false, false, false] rfl rfl (take_ofW HT_.out HW_.out (by kernel_rfl)) (fun _ _ _ h => h) (Or.inl ⟨by rfl, ?_⟩) hHeld ?_ ?_
     rotate_left
     ·rintro w' ⟨s0, s1, s2, s3, s4, s5, s6, s7, s8, s9⟩
      go_simp
      with_reducible rfl
     rotate_left
     ·simp only [Act.put, List.setIfInBounds_toArray, List.set_cons_zero, List.set_cons_succ, i64_w, i32_w]
      rfl
     refine pure_ (i := 3) (N := some 33) (v := ?_) (a' := ?_) #[true, true, true, true, true, false, true, false, false, false, false] rfl rfl (any_of HT_.out (by kernel_rfl)) (fun _ _ _ h => h) (Or.inl ⟨by rfl, ?_⟩) ?_ ?_
     rotate_left
     ·intro w'
      go_simp
      with_reducible rfl
     rotate_left
     ·simp only [Act.put, List.setIfInBounds_toArray, List.set_cons_zero, List.set_cons_succ, i64_w, i32_w]
      rfl
     refine take_ (i := 5) (N := some 35) (v := ?_) (a' := ?_) #[true, true, true, true, true, true, true, false, false, false, false] rfl rfl (take_ofW HT_.out HW_.out (by kernel_rfl)) (fun _ _ _ h => h) (Or.inl ⟨by rfl, ?_⟩) hHeld ?_ ?_
     rotate_left
     ·rintro w' ⟨s0, s1, s2, s3, s4, s5, s6, s7, s8, s9⟩
      go_simp
      with_reducible rfl
     rotate_left
     ·simp only [Act.put, List.setIfInBounds_toArray, List.set_cons_zero, List.set_cons_succ, i64_w, i32_w]
      rfl
     refine pure_ (i := 7) (N := some 37) (v := ?_) (a' := ?_) #[true, true, true, true, true, true, true, true, false, false, false] rfl rfl (any_of HT_.out (by kernel_rfl)) (fun _ _ _ h => h) (Or.inl ⟨by rfl, ?_⟩) ?_ ?_
     rotate_left
     ·intro w'
      go_simp
      with_reducible rfl
     rotate_left
     ·simp only [Act.put, List.setIfInBounds_toArray, List.set_cons_zero, List.set_cons_succ, i64_w, i32_w]
      rfl
     refine join_ (σ := Nat) 1 #[true, true, true, true, true, true, true, true, true, true, false] (fun s_ => [(38, .agg #[.int .i64 t177, .bool false]), (10, .pointer (some ⟨s_, 0, none⟩))]) (fun s_ w' => (w'.cell? ⟨gb169, 0, none⟩ = some (.int .i64 a0_0) ∧ w'.cell? ⟨gb169, 1, none⟩ = some (.int .i64 a0_1) ∧ w'.cell? ⟨gb169, 2, none⟩ = some (.int .i64 a0_2) ∧ w'.cell? ⟨gb169, 3, none⟩ = some (.int .i64 a0_3) ∧ w'.cell? ⟨gb169, 4, none⟩ = some (.int .i64 a0_4) ∧ w'.cell? ⟨gb170, 0, none⟩ = some (.int .i64 a1_0) ∧ w'.cell? ⟨gb170, 1, none⟩ = some (.int .i64 a1_1) ∧ w'.cell? ⟨gb170, 2, none⟩ = some (.int .i64 a1_2) ∧ w'.cell? ⟨gb170, 3, none⟩ = some (.int .i64 a1_3) ∧ w'.cell? ⟨gb170, 4, none⟩ = some (.int .i64 a1_4)) ∧ (w'.heap[gb169]? = some (.cells #[.int .i64 a0_0, .int .i64 a0_1, .int .i64 a0_2, .int .i64 a0_3, .int .i64 a0_4] 60 (0, 0))) ∧ (w'.heap[gb170]? = some (.cells #[.int .i64 a1_0, .int .i64 a1_1, .int .i64 a1_2, .int .i64 a1_3, .int .i64 a1_4] 60 (0, 0))) ∧ (w'.heap[gb171]? = some (.cells #[.int .i64 0, .int .i64 0, .int .i64 0, .int .i64 0] 30 (0, 0))) ∧ (w'.heap[gb176]? = some (.cells #[.int .i64 t174, .bool true] 89 (0, 0))) ∧ (w'.heap[s_]? = some (.cells #[.int .i64 0, .bool false] 89 (0, 0))) ∧ (w.heap.size ≤ s_) ∧ (w.heap.size ≤ s_) ∧ (gb169 ≠ s_) ∧ (s_ ≠ gb169) ∧ (gb170 ≠ s_) ∧ (s_ ≠ gb170) ∧ (gb171 ≠ s_) ∧ (s_ ≠ gb171) ∧ (gb176 ≠ s_) ∧ (s_ ≠ gb176) ∧ (Below w.heap.size w w')) ?_ ?_
     rotate_left
     ·intro hCont
      refine two_ (i := 8) (j := 9) (Ni := some 38) (Nj := some 10) #[true, true, true, true, true, true, true, true, true, false, false] #[true, true, true, true, true, true, true, true, false, true, false] rfl rfl rfl rfl (two_of HT_.out (by kernel_rfl)) (by decide) (by decide) (fun K hK => ?_) (fun K hK => ?_)
      ·skip
       refine goes_ Tryd.func50 (by kernel_rfl) rfl #[.int .i64 (wrap64 (Int.tdiv a0_2 t173)), .int .i64 (wrap64 (Int.tdiv a1_2 t172))] (by rfl) rfl rfl (by (try simp only [List.map_toArray, List.map_cons, List.map_nil]); first | done | rfl | (simp only [List.length_drop, List.length_take]; rfl)) ?_
       with_reducible refine (drachmref01_Mul.calls k (wrap64 (Int.tdiv a0_2 t173)) (wrap64 (Int.tdiv a1_2 t172)) t177 false _ A9.out).mono ?_
       rintro e w67 ⟨rfl, hb⟩
       refine ⟨_, rfl, ?_⟩
       replace BK169 := Aside0.mk (blk_below (kp BK169.out) hb)
       replace BK170 := Aside0.mk (blk_below (kp BK170.out) hb)
       replace BK171 := Aside0.mk (blk_below (kp BK171.out) hb)
       replace BK176 := Aside0.mk (blk_below (kp BK176.out) hb)
       replace HB := Aside0.mk (below_step (bl HB.out) hb)
       (try clear hb)
       (try clear hb2)
       (try clear hk)
       (try clear hi)
       refine hK.out _ _ ⟨(blk_cell BK169.out 0).trans rfl, (blk_cell BK169.out 1).trans rfl, (blk_cell BK169.out 2).trans rfl, (blk_cell BK169.out 3).trans rfl, (blk_cell BK169.out 4).trans rfl, (blk_cell BK170.out 0).trans rfl, (blk_cell BK170.out 1).trans rfl, (blk_cell BK170.out 2).trans rfl, (blk_cell BK170.out 3).trans rfl, (blk_cell BK170.out 4).trans rfl⟩ (fun hHeld => ?_)
       clear hK K
       refine norm_ (a' := ?_) ?_ ?_
       rotate_left
       ·show Act.put _ (some 38) _ = _
        simp only [Act.put, List.setIfInBounds_toArray, List.set_cons_zero, List.set_cons_succ, i64_w, i32_w]
        rfl
       refine one_ (i := 9) (N := some 10) #[true, true, true, true, true, true, true, true, true, true, false] rfl rfl (one_of HT_.out (by kernel_rfl)) (by decide) (fun K hK => ?_)
       refine box_step ?hg (N := 10) ?hd (cs := #[.int .i64 0, .bool false]) (t := 89) ?hr ?_; (case hd => rfl); (case hg => rfl); (case hr => first | (go_simp; done) | (go_simp; rfl))
       intro gb179 hg w68 hbox hb
       have n0_ := Aside0.mk (blk_below (kp BK169.out) hb)
       have n1_ := Aside0.mk (blk_below (kp BK170.out) hb)
       have n2_ := Aside0.mk (blk_below (kp BK171.out) hb)
       have n3_ := Aside0.mk (blk_below (kp BK176.out) hb)
       have n4_ := Aside0.mk (below_step (bl HB.out) hb)
       have n5_ := Aside0.mk (hbox)
       have n6_ := Aside0.mk ((by rw [hg]; exact (below_size (bl HB.out)) : w.heap.size ≤ gb179))
       have n7_ := Aside0.mk ((by rw [hg]; exact (below_size (bl HB.out)) : w.heap.size ≤ gb179))
       have n8_ := Aside0.mk ((by rw [hg]; exact Nat.ne_of_lt (blk_lt (kp BK169.out)) : gb169 ≠ gb179))
       have n9_ := Aside0.mk ((by rw [hg]; exact Nat.ne_of_gt (blk_lt (kp BK169.out)) : gb179 ≠ gb169))
       have n10_ := Aside0.mk ((by rw [hg]; exact Nat.ne_of_lt (blk_lt (kp BK170.out)) : gb170 ≠ gb179))
       have n11_ := Aside0.mk ((by rw [hg]; exact Nat.ne_of_gt (blk_lt (kp BK170.out)) : gb179 ≠ gb170))
       have n12_ := Aside0.mk ((by rw [hg]; exact Nat.ne_of_lt (blk_lt (kp BK171.out)) : gb171 ≠ gb179))
       have n13_ := Aside0.mk ((by rw [hg]; exact Nat.ne_of_gt (blk_lt (kp BK171.out)) : gb179 ≠ gb171))
       have n14_ := Aside0.mk ((by rw [hg]; exact Nat.ne_of_lt (blk_lt (kp BK176.out)) : gb176 ≠ gb179))
       have n15_ := Aside0.mk ((by rw [hg]; exact Nat.ne_of_gt (blk_lt (kp BK176.out)) : gb179 ≠ gb176))
       clear BK169
       clear BK170
       clear BK171
       clear BK176
       clear HB
       have BK169 := n0_
       have BK170 := n1_
       have BK171 := n2_
       have BK176 := n3_
       have HB := n4_
       have BK179 := n5_
       have GW179 := n6_
       have GE179 := n7_
       have NB169_179 := n8_
       have NB179_169 := n9_
       have NB170_179 := n10_
       have NB179_170 := n11_
       have NB171_179 := n12_
       have NB179_171 := n13_
       have NB176_179 := n14_
       have NB179_176 := n15_
       clear n0_ n1_ n2_ n3_ n4_ n5_ n6_ n7_ n8_ n9_ n10_ n11_ n12_ n13_ n14_ n15_
       clear hb hbox hg
       refine hK.out _ _ ⟨(blk_cell BK169.out 0).trans rfl, (blk_cell BK169.out 1).trans rfl, (blk_cell BK169.out 2).trans rfl, (blk_cell BK169.out 3).trans rfl, (blk_cell BK169.out 4).trans rfl, (blk_cell BK170.out 0).trans rfl, (blk_cell BK170.out 1).trans rfl, (blk_cell BK170.out 2).trans rfl, (blk_cell BK170.out 3).trans rfl, (blk_cell BK170.out 4).trans rfl⟩ (fun hHeld => ?_)
       clear hK K
       refine norm_ (a' := ?_) ?_ ?_
       rotate_left
       ·show Act.put _ (some 10) _ = _
        simp only [Act.put, List.setIfInBounds_toArray, List.set_cons_zero, List.set_cons_succ, i64_w, i32_w]
        rfl
       exact norm_ (by simp only [putAll, Act.put, List.setIfInBounds_toArray, List.set_cons_zero, List.set_cons_succ]) (hCont (gb179) _ ⟨hHeld, (kp BK169.out), (kp BK170.out), (kp BK171.out), (kp BK176.out), (kp BK179.out), GW179.out, GE179.out, NB169_179.out, NB179_169.out, NB170_179.out, NB179_170.out, NB171_179.out, NB179_171.out, NB176_179.out, NB179_176.out, (bl HB.out)⟩)
      ·skip
       refine box_step ?hg (N := 10) ?hd (cs := #[.int .i64 0, .bool false]) (t := 89) ?hr ?_; (case hd => rfl); (case hg => rfl); (case hr => first | (go_simp; done) | (go_simp; rfl))
       intro gb179 hg w67 hbox hb
       have n0_ := Aside0.mk (blk_below (kp BK169.out) hb)
       have n1_ := Aside0.mk (blk_below (kp BK170.out) hb)
       have n2_ := Aside0.mk (blk_below (kp BK171.out) hb)
       have n3_ := Aside0.mk (blk_below (kp BK176.out) hb)
       have n4_ := Aside0.mk (below_step (bl HB.out) hb)
       have n5_ := Aside0.mk (hbox)
       have n6_ := Aside0.mk ((by rw [hg]; exact (below_size (bl HB.out)) : w.heap.size ≤ gb179))
       have n7_ := Aside0.mk ((by rw [hg]; exact (below_size (bl HB.out)) : w.heap.size ≤ gb179))
       have n8_ := Aside0.mk ((by rw [hg]; exact Nat.ne_of_lt (blk_lt (kp BK169.out)) : gb169 ≠ gb179))
       have n9_ := Aside0.mk ((by rw [hg]; exact Nat.ne_of_gt (blk_lt (kp BK169.out)) : gb179 ≠ gb169))
       have n10_ := Aside0.mk ((by rw [hg]; exact Nat.ne_of_lt (blk_lt (kp BK170.out)) : gb170 ≠ gb179))
       have n11_ := Aside0.mk ((by rw [hg]; exact Nat.ne_of_gt (blk_lt (kp BK170.out)) : gb179 ≠ gb170))
       have n12_ := Aside0.mk ((by rw [hg]; exact Nat.ne_of_lt (blk_lt (kp BK171.out)) : gb171 ≠ gb179))
       have n13_ := Aside0.mk ((by rw [hg]; exact Nat.ne_of_gt (blk_lt (kp BK171.out)) : gb179 ≠ gb171))
       have n14_ := Aside0.mk ((by rw [hg]; exact Nat.ne_of_lt (blk_lt (kp BK176.out)) : gb176 ≠ gb179))
       have n15_ := Aside0.mk ((by rw [hg]; exact Nat.ne_of_gt (blk_lt (kp BK176.out)) : gb179 ≠ gb176))
       clear BK169
       clear BK170
       clear BK171
       clear BK176
       clear HB
       have BK169 := n0_
       have BK170 := n1_
       have BK171 := n2_
       have BK176 := n3_
       have HB := n4_
       have BK179 := n5_
       have GW179 := n6_
       have GE179 := n7_
       have NB169_179 := n8_
       have NB179_169 := n9_
       have NB170_179 := n10_
       have NB179_170 := n11_
       have NB171_179 := n12_
       have NB179_171 := n13_
       have NB176_179 := n14_
       have NB179_176 := n15_
       clear n0_ n1_ n2_ n3_ n4_ n5_ n6_ n7_ n8_ n9_ n10_ n11_ n12_ n13_ n14_ n15_
       clear hb hbox hg
       refine hK.out _ _ ⟨(blk_cell BK169.out 0).trans rfl, (blk_cell BK169.out 1).trans rfl, (blk_cell BK169.out 2).trans rfl, (blk_cell BK169.out 3).trans rfl, (blk_cell BK169.out 4).trans rfl, (blk_cell BK170.out 0).trans rfl, (blk_cell BK170.out 1).trans rfl, (blk_cell BK170.out 2).trans rfl, (blk_cell BK170.out 3).trans rfl, (blk_cell BK170.out 4).trans rfl⟩ (fun hHeld => ?_)
       clear hK K
       refine norm_ (a' := ?_) ?_ ?_
       rotate_left
       ·show Act.put _ (some 10) _ = _
        simp only [Act.put, List.setIfInBounds_toArray, List.set_cons_zero, List.set_cons_succ, i64_w, i32_w]
        rfl
       refine one_ (i := 8) (N := some 38) #[true, true, true, true, true, true, true, true, true, true, false] rfl rfl (one_of HT_.out (by kernel_rfl)) (by decide) (fun K hK => ?_)
       refine goes_ Tryd.func50 (by kernel_rfl) rfl #[.int .i64 (wrap64 (Int.tdiv a0_2 t173)), .int .i64 (wrap64 (Int.tdiv a1_2 t172))] (by rfl) rfl rfl (by (try simp only [List.map_toArray, List.map_cons, List.map_nil]); first | done | rfl | (simp only [List.length_drop, List.length_take]; rfl)) ?_
       with_reducible refine (drachmref01_Mul.calls k (wrap64 (Int.tdiv a0_2 t173)) (wrap64 (Int.tdiv a1_2 t172)) t177 false _ A9.out).mono ?_
       rintro e w68 ⟨rfl, hb⟩
       refine ⟨_, rfl, ?_⟩
       replace BK169 := Aside0.mk (blk_below (kp BK169.out) hb)
       replace BK170 := Aside0.mk (blk_below (kp BK170.out) hb)
       replace BK171 := Aside0.mk (blk_below (kp BK171.out) hb)
       replace BK176 := Aside0.mk (blk_below (kp BK176.out) hb)
       replace BK179 := Aside0.mk (blk_below (kp BK179.out) hb)
       replace HB := Aside0.mk (below_step (bl HB.out) hb)
       (try clear hb)
       (try clear hb2)
       (try clear hk)
       (try clear hi)
       refine hK.out _ _ ⟨(blk_cell BK169.out 0).trans rfl, (blk_cell BK169.out 1).trans rfl, (blk_cell BK169.out 2).trans rfl, (blk_cell BK169.out 3).trans rfl, (blk_cell BK169.out 4).trans rfl, (blk_cell BK170.out 0).trans rfl, (blk_cell BK170.out 1).trans rfl, (blk_cell BK170.out 2).trans rfl, (blk_cell BK170.out 3).trans rfl, (blk_cell BK170.out 4).trans rfl⟩ (fun hHeld => ?_)
       clear hK K
       refine norm_ (a' := ?_) ?_ ?_
       rotate_left
       ·show Act.put _ (some 38) _ = _
        simp only [Act.put, List.setIfInBounds_toArray, List.set_cons_zero, List.set_cons_succ, i64_w, i32_w]
        rfl
       exact norm_ (by simp only [putAll, Act.put, List.setIfInBounds_toArray, List.set_cons_zero, List.set_cons_succ]) (hCont (gb179) _ ⟨hHeld, (kp BK169.out), (kp BK170.out), (kp BK171.out), (kp BK176.out), (kp BK179.out), GW179.out, GE179.out, NB169_179.out, NB179_169.out, NB170_179.out, NB179_170.out, NB171_179.out, NB179_171.out, NB176_179.out, NB179_176.out, (bl HB.out)⟩)
     rintro gb179 w69 ⟨hS_, h0_, h1_, h2_, h3_, h4_, h5_, h6_, h7_, h8_, h9_, h10_, h11_, h12_, h13_, h14_, h15_⟩
     have BK179 : Aside0 (w69.heap[gb179]? = some (.cells #[.int .i64 0, .bool false] 89 (0, 0))) := ⟨h4_⟩
     have GW179 : Aside0 (w.heap.size ≤ gb179) := ⟨h5_⟩
     have GE179 : Aside0 (w.heap.size ≤ gb179) := ⟨h6_⟩
     have NB169_179 : Aside0 (gb169 ≠ gb179) := ⟨h7_⟩
     have NB179_169 : Aside0 (gb179 ≠ gb169) := ⟨h8_⟩
     have NB170_179 : Aside0 (gb170 ≠ gb179) := ⟨h9_⟩
     have NB179_170 : Aside0 (gb179 ≠ gb170) := ⟨h10_⟩
     have NB171_179 : Aside0 (gb171 ≠ gb179) := ⟨h11_⟩
     have NB179_171 : Aside0 (gb179 ≠ gb171) := ⟨h12_⟩
     have NB176_179 : Aside0 (gb176 ≠ gb179) := ⟨h13_⟩
     have NB179_176 : Aside0 (gb179 ≠ gb176) := ⟨h14_⟩
     replace BK169 : Aside0 (w69.heap[gb169]? = some (.cells #[.int .i64 a0_0, .int .i64 a0_1, .int .i64 a0_2, .int .i64 a0_3, .int .i64 a0_4] 60 (0, 0))) := ⟨h0_⟩
     replace BK170 : Aside0 (w69.heap[gb170]? = some (.cells #[.int .i64 a1_0, .int .i64 a1_1, .int .i64 a1_2, .int .i64 a1_3, .int .i64 a1_4] 60 (0, 0))) := ⟨h1_⟩
     replace BK171 : Aside0 (w69.heap[gb171]? = some (.cells #[.int .i64 0, .int .i64 0, .int .i64 0, .int .i64 0] 30 (0, 0))) := ⟨h2_⟩
     replace BK176 : Aside0 (w69.heap[gb176]? = some (.cells #[.int .i64 t174, .bool true] 89 (0, 0))) := ⟨h3_⟩
     replace HB : Aside0 (Below w.heap.size w w69) := ⟨h15_⟩
     clear h0_ h1_ h2_ h3_ h4_ h5_ h6_ h7_ h8_ h9_ h10_ h11_ h12_ h13_ h14_ h15_
     have hHeld : w69.cell? ⟨gb169, 0, none⟩ = some (.int .i64 a0_0) ∧ w69.cell? ⟨gb169, 1, none⟩ = some (.int .i64 a0_1) ∧ w69.cell? ⟨gb169, 2, none⟩ = some (.int .i64 a0_2) ∧ w69.cell? ⟨gb169, 3, none⟩ = some (.int .i64 a0_3) ∧ w69.cell? ⟨gb169, 4, none⟩ = some (.int .i64 a0_4) ∧ w69.cell? ⟨gb170, 0, none⟩ = some (.int .i64 a1_0) ∧ w69.cell? ⟨gb170, 1, none⟩ = some (.int .i64 a1_1) ∧ w69.cell? ⟨gb170, 2, none⟩ = some (.int .i64 a1_2) ∧ w69.cell? ⟨gb170, 3, none⟩ = some (.int .i64 a1_3) ∧ w69.cell? ⟨gb170, 4, none⟩ = some (.int .i64 a1_4) := hS_
     refine norm_ (a' := ?_) ?_ ?_
     rotate_left
     ·simp only [putAll, Act.put, List.setIfInBounds_toArray, List.set_cons_zero, List.set_cons_succ]
      rfl
     refine one_ (i := 10) (N := none) #[true, true, true, true, true, true, true, true, true, true, true] rfl rfl (one_of HT_.out (by kernel_rfl)) (by decide) (fun K hK => ?_)
     have hs70 : w69.cell? ⟨gb179, 0, none⟩ = some (.int .i64 0) := (blk_cell BK179.out 0).trans rfl
     have hfs70 := blk_frozen BK179.out 0
     have hns70_0 := NB169_179.out
     have hns70_1 := NB170_179.out
     have hns70_2 := NB171_179.out
     have hns70_3 := NB176_179.out
     have hms70_0 := NB179_169.out
     have hms70_1 := NB179_170.out
     have hms70_2 := NB179_171.out
     have hms70_3 := NB179_176.out
     have hs71 : w69.cell? ⟨gb179, 1, none⟩ = some (.bool false) := (blk_cell BK179.out 1).trans rfl
     have hfs71 := blk_frozen BK179.out 1
     have hns71_0 := NB169_179.out
     have hns71_1 := NB170_179.out
     have hns71_2 := NB171_179.out
     have hns71_3 := NB176_179.out
     have hms71_0 := NB179_169.out
     have hms71_1 := NB179_170.out
     have hms71_2 := NB179_171.out
     have hms71_3 := NB179_176.out
     refine skip_ (w1 := ?_) (by rfl) rfl ?_ ?_
     rotate_left
     ·go_simp
      rfl
     refine hK.out _ _ ⟨((cell_far (p := ⟨gb179, _, none⟩) NB169_179.out _).trans (((cell_far (p := ⟨gb179, _, none⟩) NB169_179.out _).trans (hHeld.1)))), ((cell_far (p := ⟨gb179, _, none⟩) NB169_179.out _).trans (((cell_far (p := ⟨gb179, _, none⟩) NB169_179.out _).trans (hHeld.2.1)))), ((cell_far (p := ⟨gb179, _, none⟩) NB169_179.out _).trans (((cell_far (p := ⟨gb179, _, none⟩) NB169_179.out _).trans (hHeld.2.2.1)))), ((cell_far (p := ⟨gb179, _, none⟩) NB169_179.out _).trans (((cell_far (p := ⟨gb179, _, none⟩) NB169_179.out _).trans (hHeld.2.2.2.1)))), ((cell_far (p := ⟨gb179, _, none⟩) NB169_179.out _).trans (((cell_far (p := ⟨gb179, _, none⟩) NB169_179.out _).trans (hHeld.2.2.2.2.1)))), ((cell_far (p := ⟨gb179, _, none⟩) NB170_179.out _).trans (((cell_far (p := ⟨gb179, _, none⟩) NB170_179.out _).trans (hHeld.2.2.2.2.2.1)))), ((cell_far (p := ⟨gb179, _, none⟩) NB170_179.out _).trans (((cell_far (p := ⟨gb179, _, none⟩) NB170_179.out _).trans (hHeld.2.2.2.2.2.2.1)))), ((cell_far (p := ⟨gb179, _, none⟩) NB170_179.out _).trans (((cell_far (p := ⟨gb179, _, none⟩) NB170_179.out _).trans (hHeld.2.2.2.2.2.2.2.1)))), ((cell_far (p := ⟨gb179, _, none⟩) NB170_179.out _).trans (((cell_far (p := ⟨gb179, _, none⟩) NB170_179.out _).trans (hHeld.2.2.2.2.2.2.2.2.1)))), ((cell_far (p := ⟨gb179, _, none⟩) NB170_179.out _).trans (((cell_far (p := ⟨gb179, _, none⟩) NB170_179.out _).trans (hHeld.2.2.2.2.2.2.2.2.2))))⟩ (fun hHeld => ?_)
     clear hK K
     refine done_ (done_of HT_.out (by kernel_rfl)) ?_
     have hnb72 := NB176_169.out
     have hnc72 := NB169_176.out
     have hnb73 := NB176_170.out
     have hnc73 := NB170_176.out
     have hnb74 := NB176_171.out
     have hnc74 := NB171_176.out
     have hnb75 := NB176_179.out
     have hnc75 := NB179_176.out
     obtain ⟨hcz76_0, hcz76_1⟩ := hc2 BK176.out
     obtain ⟨hfz76_0, hfz76_1⟩ := hf2 BK176.out
     have hnb77 := NB179_169.out
     have hnc77 := NB169_179.out
     have hnb78 := NB179_170.out
     have hnc78 := NB170_179.out
     have hnb79 := NB179_171.out
     have hnc79 := NB171_179.out
     obtain ⟨hcz80_0, hcz80_1⟩ := hc2 BK179.out
     obtain ⟨hfz80_0, hfz80_1⟩ := hf2 BK179.out
     obtain ⟨hcz81_0, hcz81_1, hcz81_2, hcz81_3⟩ := hc4 BK171.out
     obtain ⟨hfz81_0, hfz81_1, hfz81_2, hfz81_3⟩ := hf4 BK171.out
     try go_wp2
     refine bodyPost_ret (results_cell_row rfl _ _ gb171 30 #[.int .i64 0, .int .i64 0, .int .i64 0, .int .i64 10] (0, 0) _ rfl (kp (p4_3 (kp (p4_2 (kp (p4_1 (kp (p4_0 (kp BK171.out))))))))) Tryd.underlying30 rfl (by kernel_rfl)) rfl ?_
     exact ⟨by first | rfl | (simp [errW_none, errW_some] <;> rfl) | (simp [*, errW_none, errW_some] <;> rfl), bl HB.out⟩
   ·replace c10 := Bool.eq_false_iff.mpr c10
    subst c10
    have H1 : (some (0, 0, 0, 10)) = some (r1, r2, r3, r4) := by rw [if_neg (show ¬ (false = true) by decide)] at H; exact H
    clear H
    have H := H1
    clear H1
    simp only [Option.some.injEq, Prod.mk.injEq] at H
    obtain ⟨rfl, rfl, rfl, rfl⟩ := H
    go_enter Tryd.func56, Tryd.ntmps56
    try go_wp2_with (first | ((with_reducible refine gate_dst (N := 3) rfl ?_); refine box_event ?hg (N := 3) ?hd (cs := #[.int .i64 a0_0, .int .i64 a0_1, .int .i64 a0_2, .int .i64 a0_3, .int .i64 a0_4]) (t := 60) ?hr ?_; (case hd => rfl); (case hg => rfl); (case hr => first | (go_simp; done) | (go_simp; rfl)); intro gb169 hg w82 hbox hb; have n0_ := Aside0.mk (below_step (bl HB.out) hb); have n1_ := Aside0.mk (hbox); have n2_ := Aside0.mk ((by rw [hg]; exact (below_size (bl HB.out)) : w.heap.size ≤ gb169)); have n3_ := Aside0.mk ((by rw [hg]; exact (below_size (bl HB.out)) : w.heap.size ≤ gb169)); clear HB; have HB := n0_; have BK169 := n1_; have GW169 := n2_; have GE169 := n3_; clear n0_ n1_ n2_ n3_; clear hb hbox hg) | ((with_reducible refine gate_dst (N := 4) rfl ?_); refine box_event ?hg (N := 4) ?hd (cs := #[.int .i64 a1_0, .int .i64 a1_1, .int .i64 a1_2, .int .i64 a1_3, .int .i64 a1_4]) (t := 60) ?hr ?_; (case hd => rfl); (case hg => rfl); (case hr => first | (go_simp; done) | (go_simp; rfl)); intro gb170 hg w83 hbox hb; have n0_ := Aside0.mk (blk_below (kp BK169.out) hb); have n1_ := Aside0.mk (below_step (bl HB.out) hb); have n2_ := Aside0.mk (hbox); have n3_ := Aside0.mk ((by rw [hg]; exact (below_size (bl HB.out)) : w.heap.size ≤ gb170)); have n4_ := Aside0.mk ((by rw [hg]; exact (below_size (bl HB.out)) : w.heap.size ≤ gb170)); have n5_ := Aside0.mk ((by rw [hg]; exact Nat.ne_of_lt (blk_lt (kp BK169.out)) : gb169 ≠ gb170)); have n6_ := Aside0.mk ((by rw [hg]; exact Nat.ne_of_gt (blk_lt (kp BK169.out)) : gb170 ≠ gb169)); clear BK169; clear HB; have BK169 := n0_; have HB := n1_; have BK170 := n2_; have GW170 := n3_; have GE170 := n4_; have NB169_170 := n5_; have NB170_169 := n6_; clear n0_ n1_ n2_ n3_ n4_ n5_ n6_; clear hb hbox hg) | ((with_reducible refine gate_dst (N := 6) rfl ?_); refine box_event ?hg (N := 6) ?hd (cs := #[.int .i64 0, .int .i64 0, .int .i64 0, .int .i64 0]) (t := 30) ?hr ?_; (case hd => rfl); (case hg => rfl); (case hr => first | (go_simp; done) | (go_simp; rfl)); intro gb171 hg w84 hbox hb; have n0_ := Aside0.mk (blk_below (kp BK169.out) hb); have n1_ := Aside0.mk (blk_below (kp BK170.out) hb); have n2_ := Aside0.mk (below_step (bl HB.out) hb); have n3_ := Aside0.mk (hbox); have n4_ := Aside0.mk ((by rw [hg]; exact (below_size (bl HB.out)) : w.heap.size ≤ gb171)); have n5_ := Aside0.mk ((by rw [hg]; exact (below_size (bl HB.out)) : w.heap.size ≤ gb171)); have n6_ := Aside0.mk ((by rw [hg]; exact Nat.ne_of_lt (blk_lt (kp BK169.out)) : gb169 ≠ gb171)); have n7_ := Aside0.mk ((by rw [hg]; exact Nat.ne_of_gt (blk_lt (kp BK169.out)) : gb171 ≠ gb169)); have n8_ := Aside0.mk ((by rw [hg]; exact Nat.ne_of_lt (blk_lt (kp BK170.out)) : gb170 ≠ gb171)); have n9_ := Aside0.mk ((by rw [hg]; exact Nat.ne_of_gt (blk_lt (kp BK170.out)) : gb171 ≠ gb170)); clear BK169; clear BK170; clear HB; have BK169 := n0_; have BK170 := n1_; have HB := n2_; have BK171 := n3_; have GW171 := n4_; have GE171 := n5_; have NB169_171 := n6_; have NB171_169 := n7_; have NB170_171 := n8_; have NB171_170 := n9_; clear n0_ n1_ n2_ n3_ n4_ n5_ n6_ n7_ n8_ n9_; clear hb hbox hg; have hnb85 := NB169_170.out; have hnc85 := NB170_169.out; have hnb86 := NB169_171.out; have hnc86 := NB171_169.out; obtain ⟨hcz87_0, hcz87_1, hcz87_2, hcz87_3, hcz87_4⟩ := hc5 BK169.out; obtain ⟨hfz87_0, hfz87_1, hfz87_2, hfz87_3, hfz87_4⟩ := hf5 BK169.out; have hnb88 := NB170_171.out; have hnc88 := NB171_170.out; obtain ⟨hcz89_0, hcz89_1, hcz89_2, hcz89_3, hcz89_4⟩ := hc5 BK170.out; obtain ⟨hfz89_0, hfz89_1, hfz89_2, hfz89_3, hfz89_4⟩ := hf5 BK170.out) | ((with_reducible refine gate_callee (f := 32) rfl ?_); refine goesL_ (some 15) rfl rfl Tryd.func32 (by kernel_rfl) rfl #[.int .i64 a0_1, .int .i64 a1_2] rfl (by (try simp only [List.map_toArray, List.map_cons, List.map_nil]); first | done | rfl | (simp only [List.length_drop, List.length_take]; rfl)) ?_; (with_reducible refine (drachmref01_Gcd.calls k a0_1 a1_2 t172 _ A4.out).mono ?_); rintro e w' ⟨rfl, ⟨nd, rfl⟩⟩; refine ⟨_, rfl, ?_⟩; (try (rw [drewN_self w84]; generalize hq_ : World.drewN w84 _ = w84; replace BK169 := Aside0.mk (kq hq_ BK169.out); replace BK170 := Aside0.mk (kq hq_ BK170.out); replace BK171 := Aside0.mk (kq hq_ BK171.out); replace HB := Aside0.mk (bq hq_ HB.out); clear hq_)); obtain ⟨hcz90_0, hcz90_1, hcz90_2, hcz90_3, hcz90_4⟩ := hc5 BK170.out; obtain ⟨hfz90_0, hfz90_1, hfz90_2, hfz90_3, hfz90_4⟩ := hf5 BK170.out; obtain ⟨hcz91_0, hcz91_1, hcz91_2, hcz91_3, hcz91_4⟩ := hc5 BK169.out; obtain ⟨hfz91_0, hfz91_1, hfz91_2, hfz91_3, hfz91_4⟩ := hf5 BK169.out) | ((with_reducible refine gate_callee (f := 32) rfl ?_); refine goesL_ (some 20) rfl rfl Tryd.func32 (by kernel_rfl) rfl #[.int .i64 a1_1, .int .i64 a0_2] rfl (by (try simp only [List.map_toArray, List.map_cons, List.map_nil]); first | done | rfl | (simp only [List.length_drop, List.length_take]; rfl)) ?_; (with_reducible refine (drachmref01_Gcd.calls k a1_1 a0_2 t173 _ A5.out).mono ?_); rintro e w' ⟨rfl, ⟨nd, rfl⟩⟩; refine ⟨_, rfl, ?_⟩; (try (rw [drewN_self w84]; generalize hq_ : World.drewN w84 _ = w84; replace BK169 := Aside0.mk (kq hq_ BK169.out); replace BK170 := Aside0.mk (kq hq_ BK170.out); replace BK171 := Aside0.mk (kq hq_ BK171.out); replace HB := Aside0.mk (bq hq_ HB.out); clear hq_))))
    (try (rw [drewN_self w84]; generalize hq_ : World.drewN w84 _ = w84; replace BK169 := Aside0.mk (kq hq_ BK169.out); replace BK170 := Aside0.mk (kq hq_ BK170.out); replace BK171 := Aside0.mk (kq hq_ BK171.out); replace HB := Aside0.mk (bq hq_ HB.out); clear hq_))
    replace BK169 := Aside0.mk (blk_drew BK169.out)
    replace BK170 := Aside0.mk (blk_drew BK170.out)
    replace BK171 := Aside0.mk (blk_drew BK171.out)
    replace HB := Aside0.mk (below_drew1 HB.out)
    refine start_ (n := 11) (S := fun w' => w'.cell? ⟨gb169, 0, none⟩ = some (.int .i64 a0_0) ∧ w'.cell? ⟨gb169, 1, none⟩ = some (.int .i64 a0_1) ∧ w'.cell? ⟨gb169, 2, none⟩ = some (.int .i64 a0_2) ∧ w'.cell? ⟨gb169, 3, none⟩ = some (.int .i64 a0_3) ∧ w'.cell? ⟨gb169, 4, none⟩ = some (.int .i64 a0_4) ∧ w'.cell? ⟨gb170, 0, none⟩ = some (.int .i64 a1_0) ∧ w'.cell? ⟨gb170, 1, none⟩ = some (.int .i64 a1_1) ∧ w'.cell? ⟨gb170, 2, none⟩ = some (.int .i64 a1_2) ∧ w'.cell? ⟨gb170, 3, none⟩ = some (.int .i64 a1_3) ∧ w'.cell? ⟨gb170, 4, none⟩ = some (.int .i64 a1_4)) (ds := []) #[false, false, false, false, false, false, false, false, false, false, false] (by kernel_rfl) rfl rfl ⟨(blk_cell BK169.out 0).trans rfl, (blk_cell BK169.out 1).trans rfl, (blk_cell BK169.out 2).trans rfl, (blk_cell BK169.out 3).trans rfl, (blk_cell BK169.out 4).trans rfl, (blk_cell BK170.out 0).trans rfl, (blk_cell BK170.out 1).trans rfl, (blk_cell BK170.out 2).trans rfl, (blk_cell BK170.out 3).trans rfl, (blk_cell BK170.out 4).trans rfl⟩ (fun hHeld => ?_); refine with_tabW drachmref02_times.tab3 drachmref02_times.bits3 (fun HT_ HW_ => ?_)
    generalize w84.drew = w92 at BK169 BK170 BK171 HB hHeld ⊢
    refine pure_ (i := 0) (N := some 21) (v := ?_) (a' := ?_) #[true, false, false, false, false, false, false, false, false, false, false] rfl rfl (any_of HT_.out (by kernel_rfl)) (fun _ _ _ h => h) (Or.inl ⟨by rfl, ?_⟩) ?_ ?_
    rotate_left
    ·intro w'
     go_simp
     with_reducible rfl
    rotate_left
    ·simp only [Act.put, List.setIfInBounds_toArray, List.set_cons_zero, List.set_cons_succ, i64_w, i32_w]
     rfl
    refine pure_ (i := 2) (N := some 23) (v := ?_) (a' := ?_) #[true, false, true, false, false, false, false, false, false, false, false] rfl rfl (any_of HT_.out (by kernel_rfl)) (fun _ _ _ h => h) (Or.inl ⟨by rfl, ?_⟩) ?_ ?_
    rotate_left
    ·intro w'
     go_simp
     with_reducible rfl
    rotate_left
    ·simp only [Act.put, List.setIfInBounds_toArray, List.set_cons_zero, List.set_cons_succ, i64_w, i32_w]
     rfl
    refine pure_ (i := 4) (N := some 25) (v := ?_) (a' := ?_) #[true, false, true, false, true, false, false, false, false, false, false] rfl rfl (any_of HT_.out (by kernel_rfl)) (fun _ _ _ h => h) (Or.inl ⟨by rfl, ?_⟩) ?_ ?_
    rotate_left
    ·intro w'
     go_simp
     with_reducible rfl
    rotate_left
    ·simp only [Act.put, List.setIfInBounds_toArray, List.set_cons_zero, List.set_cons_succ, i64_w, i32_w]
     rfl
    refine pure_ (i := 6) (N := some 27) (v := ?_) (a' := ?_) #[true, false, true, false, true, false, true, false, false, false, false] rfl rfl (any_of HT_.out (by kernel_rfl)) (fun _ _ _ h => h) (Or.inl ⟨by rfl, ?_⟩) ?_ ?_
    rotate_left
    ·intro w'
     go_simp
     with_reducible rfl
    rotate_left
    ·simp only [Act.put, List.setIfInBounds_toArray, List.set_cons_zero, List.set_cons_succ, i64_w, i32_w]
     rfl
    refine take_ (i := 1) (N := some 22) (v := ?_) (a' := ?_) #[true, true, true, false, true, false, true, false, false, false, false] rfl rfl (take_ofW HT_.out HW_.out (by kernel_rfl)) (fun _ _ _ h => h) (Or.inl ⟨by rfl, ?_⟩) hHeld ?_ ?_
    rotate_left
    ·rintro w' ⟨s0, s1, s2, s3, s4, s5, s6, s7, s8, s9⟩
     go_simp
     with_reducible rfl
    rotate_left
    ·simp only [Act.put, List.setIfInBounds_toArray, List.set_cons_zero, List.set_cons_succ, i64_w, i32_w]
     rfl
    refine pure_ (i := 3) (N := some 24) (v := ?_) (a' := ?_) #[true, true, true, true, true, false, true, false, false, false, false] rfl rfl (any_of HT_.out (by kernel_rfl)) (fun _ _ _ h => h) (Or.inl ⟨by rfl, ?_⟩) ?_ ?_
    rotate_left
    ·intro w'
     go_simp
     with_reducible rfl
    rotate_left
    ·simp only [Act.put, List.setIfInBounds_toArray, List.set_cons_zero, List.set_cons_succ, i64_w, i32_w]
     rfl
    refine take_ (i := 5) (N := some 26) (v := ?_) (a' := ?_) #[true, true, true, true, true, true, true, false, false, false, false] rfl rfl (take_ofW HT_.out HW_.out (by kernel_rfl)) (fun _ _ _ h => h) (Or.inl ⟨by rfl, ?_⟩) hHeld ?_ ?_
    rotate_left
    ·rintro w' ⟨s0, s1, s2, s3, s4, s5, s6, s7, s8, s9⟩
     go_simp
     with_reducible rfl
    rotate_left
    ·simp only [Act.put, List.setIfInBounds_toArray, List.set_cons_zero, List.set_cons_succ, i64_w, i32_w]
     rfl
    refine pure_ (i := 7) (N := some 28) (v := ?_) (a' := ?_) #[true, true, true, true, true, true, true, true, false, false, false] rfl rfl (any_of HT_.out (by kernel_rfl)) (fun _ _ _ h => h) (Or.inl ⟨by rfl, ?_⟩) ?_ ?_
    rotate_left
    ·intro w'
     go_simp
     with_reducible rfl
    rotate_left
    ·simp only [Act.put, List.setIfInBounds_toArray, List.set_cons_zero, List.set_cons_succ, i64_w, i32_w]
     rfl
    refine join_ (σ := Nat) 1 #[true, true, true, true, true, true, true, true, true, true, false] (fun s_ => [(29, .agg #[.int .i64 t174, .bool false]), (9, .pointer (some ⟨s_, 0, none⟩))]) (fun s_ w' => (w'.cell? ⟨gb169, 0, none⟩ = some (.int .i64 a0_0) ∧ w'.cell? ⟨gb169, 1, none⟩ = some (.int .i64 a0_1) ∧ w'.cell? ⟨gb169, 2, none⟩ = some (.int .i64 a0_2) ∧ w'.cell? ⟨gb169, 3, none⟩ = some (.int .i64 a0_3) ∧ w'.cell? ⟨gb169, 4, none⟩ = some (.int .i64 a0_4) ∧ w'.cell? ⟨gb170, 0, none⟩ = some (.int .i64 a1_0) ∧ w'.cell? ⟨gb170, 1, none⟩ = some (.int .i64 a1_1) ∧ w'.cell? ⟨gb170, 2, none⟩ = some (.int .i64 a1_2) ∧ w'.cell? ⟨gb170, 3, none⟩ = some (.int .i64 a1_3) ∧ w'.cell? ⟨gb170, 4, none⟩ = some (.int .i64 a1_4)) ∧ (w'.heap[gb169]? = some (.cells #[.int .i64 a0_0, .int .i64 a0_1, .int .i64 a0_2, .int .i64 a0_3, .int .i64 a0_4] 60 (0, 0))) ∧ (w'.heap[gb170]? = some (.cells #[.int .i64 a1_0, .int .i64 a1_1, .int .i64 a1_2, .int .i64 a1_3, .int .i64 a1_4] 60 (0, 0))) ∧ (w'.heap[gb171]? = some (.cells #[.int .i64 0, .int .i64 0, .int .i64 0, .int .i64 0] 30 (0, 0))) ∧ (w'.heap[s_]? = some (.cells #[.int .i64 0, .bool false] 89 (0, 0))) ∧ (w.heap.size ≤ s_) ∧ (w.heap.size ≤ s_) ∧ (gb169 ≠ s_) ∧ (s_ ≠ gb169) ∧ (gb170 ≠ s_) ∧ (s_ ≠ gb170) ∧ (gb171 ≠ s_) ∧ (s_ ≠ gb171) ∧ (Below w.heap.size w w')) ?_ ?_
    rotate_left
    ·intro hCont
     refine two_ (i := 8) (j := 9) (Ni := some 29) (Nj := some 9) #[true, true, true, true, true, true, true, true, true, false, false] #[true, true, true, true, true, true, true, true, false, true, false] rfl rfl rfl rfl (two_of HT_.out (by kernel_rfl)) (by decide) (by decide) (fun K hK => ?_) (fun K hK => ?_)
     ·skip
      refine goes_ Tryd.func50 (by kernel_rfl) rfl #[.int .i64 (wrap64 (Int.tdiv a0_1 t172)), .int .i64 (wrap64 (Int.tdiv a1_1 t173))] (by rfl) rfl rfl (by (try simp only [List.map_toArray, List.map_cons, List.map_nil]); first | done | rfl | (simp only [List.length_drop, List.length_take]; rfl)) ?_
      with_reducible refine (drachmref01_Mul.calls k (wrap64 (Int.tdiv a0_1 t172)) (wrap64 (Int.tdiv a1_1 t173)) t174 false _ A8.out).mono ?_
      rintro e w93 ⟨rfl, hb⟩
      refine ⟨_, rfl, ?_⟩
      replace BK169 := Aside0.mk (blk_below (kp BK169.out) hb)
      replace BK170 := Aside0.mk (blk_below (kp BK170.out) hb)
      replace BK171 := Aside0.mk (blk_below (kp BK171.out) hb)
      replace HB := Aside0.mk (below_step (bl HB.out) hb)
      (try clear hb)
      (try clear hb2)
      (try clear hk)
      (try clear hi)
      refine hK.out _ _ ⟨(blk_cell BK169.out 0).trans rfl, (blk_cell BK169.out 1).trans rfl, (blk_cell BK169.out 2).trans rfl, (blk_cell BK169.out 3).trans rfl, (blk_cell BK169.out 4).trans rfl, (blk_cell BK170.out 0).trans rfl, (blk_cell BK170.out 1).trans rfl, (blk_cell BK170.out 2).trans rfl, (blk_cell BK170.out 3).trans rfl, (blk_cell BK170.out 4).trans rfl⟩ (fun hHeld => ?_)
      clear hK K
      refine norm_ (a' := ?_) ?_ ?_
      rotate_left
      ·show Act.put _ (some 29) _ = _
       simp only [Act.put, List.setIfInBounds_toArray, List.set_cons_zero, List.set_cons_succ, i64_w, i32_w]
       rfl
      refine one_ (i := 9) (N := some 9) #[true, true, true, true, true, true, true, true, true, true, false] rfl rfl (one_of HT_.out (by kernel_rfl)) (by decide) (fun K hK => ?_)
      refine box_step ?hg (N := 9) ?hd (cs := #[.int .i64 0, .bool false]) (t := 89) ?hr ?_; (case hd => rfl); (case hg => rfl); (case hr => first | (go_simp; done) | (go_simp; rfl))
      intro gb176 hg w94 hbox hb
      have n0_ := Aside0.mk (blk_below (kp BK169.out) hb)
      have n1_ := Aside0.mk (blk_below (kp BK170.out) hb)
      have n2_ := Aside0.mk (blk_below (kp BK171.out) hb)
      have n3_ := Aside0.mk (below_step (bl HB.out) hb)
      have n4_ := Aside0.mk (hbox)
      have n5_ := Aside0.mk ((by rw [hg]; exact (below_size (bl HB.out)) : w.heap.size ≤ gb176))
      have n6_ := Aside0.mk ((by rw [hg]; exact (below_size (bl HB.out)) : w.heap.size ≤ gb176))
      have n7_ := Aside0.mk ((by rw [hg]; exact Nat.ne_of_lt (blk_lt (kp BK169.out)) : gb169 ≠ gb176))
      have n8_ := Aside0.mk ((by rw [hg]; exact Nat.ne_of_gt (blk_lt (kp BK169.out)) : gb176 ≠ gb169))
      have n9_ := Aside0.mk ((by rw [hg]; exact Nat.ne_of_lt (blk_lt (kp BK170.out)) : gb170 ≠ gb176))
      have n10_ := Aside0.mk ((by rw [hg]; exact Nat.ne_of_gt (blk_lt (kp BK170.out)) : gb176 ≠ gb170))
      have n11_ := Aside0.mk ((by rw [hg]; exact Nat.ne_of_lt (blk_lt (kp BK171.out)) : gb171 ≠ gb176))
      have n12_ := Aside0.mk ((by rw [hg]; exact Nat.ne_of_gt (blk_lt (kp BK171.out)) : gb176 ≠ gb171))
      clear BK169
      clear BK170
      clear BK171
      clear HB
      have BK169 := n0_
      have BK170 := n1_
      have BK171 := n2_
      have HB := n3_
      have BK176 := n4_
      have GW176 := n5_
      have GE176 := n6_
      have NB169_176 := n7_
      have NB176_169 := n8_
      have NB170_176 := n9_
      have NB176_170 := n10_
      have NB171_176 := n11_
      have NB176_171 := n12_
      clear n0_ n1_ n2_ n3_ n4_ n5_ n6_ n7_ n8_ n9_ n10_ n11_ n12_
      clear hb hbox hg
      refine hK.out _ _ ⟨(blk_cell BK169.out 0).trans rfl, (blk_cell BK169.out 1).trans rfl, (blk_cell BK169.out 2).trans rfl, (blk_cell BK169.out 3).trans rfl, (blk_cell BK169.out 4).trans rfl, (blk_cell BK170.out 0).trans rfl, (blk_cell BK170.out 1).trans rfl, (blk_cell BK170.out 2).trans rfl, (blk_cell BK170.out 3).trans rfl, (blk_cell BK170.out 4).trans rfl⟩ (fun hHeld => ?_)
      clear hK K
      refine norm_ (a' := ?_) ?_ ?_
      rotate_left
      ·show Act.put _ (some 9) _ = _
       simp only [Act.put, List.setIfInBounds_toArray, List.set_cons_zero, List.set_cons_succ, i64_w, i32_w]
       rfl
      exact norm_ (by simp only [putAll, Act.put, List.setIfInBounds_toArray, List.set_cons_zero, List.set_cons_succ]) (hCont (gb176) _ ⟨hHeld, (kp BK169.out), (kp BK170.out), (kp BK171.out), (kp BK176.out), GW176.out, GE176.out, NB169_176.out, NB176_169.out, NB170_176.out, NB176_170.out, NB171_176.out, NB176_171.out, (bl HB.out)⟩)
     ·skip
      refine box_step ?hg (N := 9) ?hd (cs := #[.int .i64 0, .bool false]) (t := 89) ?hr ?_; (case hd => rfl); (case hg => rfl); (case hr => first | (go_simp; done) | (go_simp; rfl))
      intro gb176 hg w93 hbox hb
      have n0_ := Aside0.mk (blk_below (kp BK169.out) hb)
      have n1_ := Aside0.mk (blk_below (kp BK170.out) hb)
      have n2_ := Aside0.mk (blk_below (kp BK171.out) hb)
      have n3_ := Aside0.mk (below_step (bl HB.out) hb)
      have n4_ := Aside0.mk (hbox)
      have n5_ := Aside0.mk ((by rw [hg]; exact (below_size (bl HB.out)) : w.heap.size ≤ gb176))
      have n6_ := Aside0.mk ((by rw [hg]; exact (below_size (bl HB.out)) : w.heap.size ≤ gb176))
      have n7_ := Aside0.mk ((by rw [hg]; exact Nat.ne_of_lt (blk_lt (kp BK169.out)) : gb169 ≠ gb176))
      have n8_ := Aside0.mk ((by rw [hg]; exact Nat.ne_of_gt (blk_lt (kp BK169.out)) : gb176 ≠ gb169))
      have n9_ := Aside0.mk ((by rw [hg]; exact Nat.ne_of_lt (blk_lt (kp BK170.out)) : gb170 ≠ gb176))
      have n10_ := Aside0.mk ((by rw [hg]; exact Nat.ne_of_gt (blk_lt (kp BK170.out)) : gb176 ≠ gb170))
      have n11_ := Aside0.mk ((by rw [hg]; exact Nat.ne_of_lt (blk_lt (kp BK171.out)) : gb171 ≠ gb176))
      have n12_ := Aside0.mk ((by rw [hg]; exact Nat.ne_of_gt (blk_lt (kp BK171.out)) : gb176 ≠ gb171))
      clear BK169
      clear BK170
      clear BK171
      clear HB
      have BK169 := n0_
      have BK170 := n1_
      have BK171 := n2_
      have HB := n3_
      have BK176 := n4_
      have GW176 := n5_
      have GE176 := n6_
      have NB169_176 := n7_
      have NB176_169 := n8_
      have NB170_176 := n9_
      have NB176_170 := n10_
      have NB171_176 := n11_
      have NB176_171 := n12_
      clear n0_ n1_ n2_ n3_ n4_ n5_ n6_ n7_ n8_ n9_ n10_ n11_ n12_
      clear hb hbox hg
      refine hK.out _ _ ⟨(blk_cell BK169.out 0).trans rfl, (blk_cell BK169.out 1).trans rfl, (blk_cell BK169.out 2).trans rfl, (blk_cell BK169.out 3).trans rfl, (blk_cell BK169.out 4).trans rfl, (blk_cell BK170.out 0).trans rfl, (blk_cell BK170.out 1).trans rfl, (blk_cell BK170.out 2).trans rfl, (blk_cell BK170.out 3).trans rfl, (blk_cell BK170.out 4).trans rfl⟩ (fun hHeld => ?_)
      clear hK K
      refine norm_ (a' := ?_) ?_ ?_
      rotate_left
      ·show Act.put _ (some 9) _ = _
       simp only [Act.put, List.setIfInBounds_toArray, List.set_cons_zero, List.set_cons_succ, i64_w, i32_w]
       rfl
      refine one_ (i := 8) (N := some 29) #[true, true, true, true, true, true, true, true, true, true, false] rfl rfl (one_of HT_.out (by kernel_rfl)) (by decide) (fun K hK => ?_)
      refine goes_ Tryd.func50 (by kernel_rfl) rfl #[.int .i64 (wrap64 (Int.tdiv a0_1 t172)), .int .i64 (wrap64 (Int.tdiv a1_1 t173))] (by rfl) rfl rfl (by (try simp only [List.map_toArray, List.map_cons, List.map_nil]); first | done | rfl | (simp only [List.length_drop, List.length_take]; rfl)) ?_
      with_reducible refine (drachmref01_Mul.calls k (wrap64 (Int.tdiv a0_1 t172)) (wrap64 (Int.tdiv a1_1 t173)) t174 false _ A8.out).mono ?_
      rintro e w94 ⟨rfl, hb⟩
      refine ⟨_, rfl, ?_⟩
      replace BK169 := Aside0.mk (blk_below (kp BK169.out) hb)
      replace BK170 := Aside0.mk (blk_below (kp BK170.out) hb)
      replace BK171 := Aside0.mk (blk_below (kp BK171.out) hb)
      replace BK176 := Aside0.mk (blk_below (kp BK176.out) hb)
      replace HB := Aside0.mk (below_step (bl HB.out) hb)
      (try clear hb)
      (try clear hb2)
      (try clear hk)
      (try clear hi)
      refine hK.out _ _ ⟨(blk_cell BK169.out 0).trans rfl, (blk_cell BK169.out 1).trans rfl, (blk_cell BK169.out 2).trans rfl, (blk_cell BK169.out 3).trans rfl, (blk_cell BK169.out 4).trans rfl, (blk_cell BK170.out 0).trans rfl, (blk_cell BK170.out 1).trans rfl, (blk_cell BK170.out 2).trans rfl, (blk_cell BK170.out 3).trans rfl, (blk_cell BK170.out 4).trans rfl⟩ (fun hHeld => ?_)
      clear hK K
      refine norm_ (a' := ?_) ?_ ?_
      rotate_left
      ·show Act.put _ (some 29) _ = _
       simp only [Act.put, List.setIfInBounds_toArray, List.set_cons_zero, List.set_cons_succ, i64_w, i32_w]
       rfl
      exact norm_ (by simp only [putAll, Act.put, List.setIfInBounds_toArray, List.set_cons_zero, List.set_cons_succ]) (hCont (gb176) _ ⟨hHeld, (kp BK169.out), (kp BK170.out), (kp BK171.out), (kp BK176.out), GW176.out, GE176.out, NB169_176.out, NB176_169.out, NB170_176.out, NB176_170.out, NB171_176.out, NB176_171.out, (bl HB.out)⟩)
    rintro gb176 w95 ⟨hS_, h0_, h1_, h2_, h3_, h4_, h5_, h6_, h7_, h8_, h9_, h10_, h11_, h12_⟩
    have BK176 : Aside0 (w95.heap[gb176]? = some (.cells #[.int .i64 0, .bool false] 89 (0, 0))) := ⟨h3_⟩
    have GW176 : Aside0 (w.heap.size ≤ gb176) := ⟨h4_⟩
    have GE176 : Aside0 (w.heap.size ≤ gb176) := ⟨h5_⟩
    have NB169_176 : Aside0 (gb169 ≠ gb176) := ⟨h6_⟩
    have NB176_169 : Aside0 (gb176 ≠ gb169) := ⟨h7_⟩
    have NB170_176 : Aside0 (gb170 ≠ gb176) := ⟨h8_⟩
    have NB176_170 : Aside0 (gb176 ≠ gb170) := ⟨h9_⟩
    have NB171_176 : Aside0 (gb171 ≠ gb176) := ⟨h10_⟩
    have NB176_171 : Aside0 (gb176 ≠ gb171) := ⟨h11_⟩
    replace BK169 : Aside0 (w95.heap[gb169]? = some (.cells #[.int .i64 a0_0, .int .i64 a0_1, .int .i64 a0_2, .int .i64 a0_3, .int .i64 a0_4] 60 (0, 0))) := ⟨h0_⟩
    replace BK170 : Aside0 (w95.heap[gb170]? = some (.cells #[.int .i64 a1_0, .int .i64 a1_1, .int .i64 a1_2, .int .i64 a1_3, .int .i64 a1_4] 60 (0, 0))) := ⟨h1_⟩
    replace BK171 : Aside0 (w95.heap[gb171]? = some (.cells #[.int .i64 0, .int .i64 0, .int .i64 0, .int .i64 0] 30 (0, 0))) := ⟨h2_⟩
    replace HB : Aside0 (Below w.heap.size w w95) := ⟨h12_⟩
    clear h0_ h1_ h2_ h3_ h4_ h5_ h6_ h7_ h8_ h9_ h10_ h11_ h12_
    have hHeld : w95.cell? ⟨gb169, 0, none⟩ = some (.int .i64 a0_0) ∧ w95.cell? ⟨gb169, 1, none⟩ = some (.int .i64 a0_1) ∧ w95.cell? ⟨gb169, 2, none⟩ = some (.int .i64 a0_2) ∧ w95.cell? ⟨gb169, 3, none⟩ = some (.int .i64 a0_3) ∧ w95.cell? ⟨gb169, 4, none⟩ = some (.int .i64 a0_4) ∧ w95.cell? ⟨gb170, 0, none⟩ = some (.int .i64 a1_0) ∧ w95.cell? ⟨gb170, 1, none⟩ = some (.int .i64 a1_1) ∧ w95.cell? ⟨gb170, 2, none⟩ = some (.int .i64 a1_2) ∧ w95.cell? ⟨gb170, 3, none⟩ = some (.int .i64 a1_3) ∧ w95.cell? ⟨gb170, 4, none⟩ = some (.int .i64 a1_4) := hS_
    refine norm_ (a' := ?_) ?_ ?_
    rotate_left
    ·simp only [putAll, Act.put, List.setIfInBounds_toArray, List.set_cons_zero, List.set_cons_succ]
     rfl
    refine one_ (i := 10) (N := none) #[true, true, true, true, true, true, true, true, true, true, true] rfl rfl (one_of HT_.out (by kernel_rfl)) (by decide) (fun K hK => ?_)
    have hs96 : w95.cell? ⟨gb176, 0, none⟩ = some (.int .i64 0) := (blk_cell BK176.out 0).trans rfl
    have hfs96 := blk_frozen BK176.out 0
    have hns96_0 := NB169_176.out
    have hns96_1 := NB170_176.out
    have hns96_2 := NB171_176.out
    have hms96_0 := NB176_169.out
    have hms96_1 := NB176_170.out
    have hms96_2 := NB176_171.out
    have hs97 : w95.cell? ⟨gb176, 1, none⟩ = some (.bool false) := (blk_cell BK176.out 1).trans rfl
    have hfs97 := blk_frozen BK176.out 1
    have hns97_0 := NB169_176.out
    have hns97_1 := NB170_176.out
    have hns97_2 := NB171_176.out
    have hms97_0 := NB176_169.out
    have hms97_1 := NB176_170.out
    have hms97_2 := NB176_171.out
    refine skip_ (w1 := ?_) (by rfl) rfl ?_ ?_
    rotate_left
    ·go_simp
     rfl
    refine hK.out _ _ ⟨((cell_far (p := ⟨gb176, _, none⟩) NB169_176.out _).trans (((cell_far (p := ⟨gb176, _, none⟩) NB169_176.out _).trans (hHeld.1)))), ((cell_far (p := ⟨gb176, _, none⟩) NB169_176.out _).trans (((cell_far (p := ⟨gb176, _, none⟩) NB169_176.out _).trans (hHeld.2.1)))), ((cell_far (p := ⟨gb176, _, none⟩) NB169_176.out _).trans (((cell_far (p := ⟨gb176, _, none⟩) NB169_176.out _).trans (hHeld.2.2.1)))), ((cell_far (p := ⟨gb176, _, none⟩) NB169_176.out _).trans (((cell_far (p := ⟨gb176, _, none⟩) NB169_176.out _).trans (hHeld.2.2.2.1)))), ((cell_far (p := ⟨gb176, _, none⟩) NB169_176.out _).trans (((cell_far (p := ⟨gb176, _, none⟩) NB169_176.out _).trans (hHeld.2.2.2.2.1)))), ((cell_far (p := ⟨gb176, _, none⟩) NB170_176.out _).trans (((cell_far (p := ⟨gb176, _, none⟩) NB170_176.out _).trans (hHeld.2.2.2.2.2.1)))), ((cell_far (p := ⟨gb176, _, none⟩) NB170_176.out _).trans (((cell_far (p := ⟨gb176, _, none⟩) NB170_176.out _).trans (hHeld.2.2.2.2.2.2.1)))), ((cell_far (p := ⟨gb176, _, none⟩) NB170_176.out _).trans (((cell_far (p := ⟨gb176, _, none⟩) NB170_176.out _).trans (hHeld.2.2.2.2.2.2.2.1)))), ((cell_far (p := ⟨gb176, _, none⟩) NB170_176.out _).trans (((cell_far (p := ⟨gb176, _, none⟩) NB170_176.out _).trans (hHeld.2.2.2.2.2.2.2.2.1)))), ((cell_far (p := ⟨gb176, _, none⟩) NB170_176.out _).trans (((cell_far (p := ⟨gb176, _, none⟩) NB170_176.out _).trans (hHeld.2.2.2.2.2.2.2.2.2))))⟩ (fun hHeld => ?_)
    clear hK K
    refine done_ (done_of HT_.out (by kernel_rfl)) ?_
    try go_wp2
    have n0_ : Aside0 (((w95.setCell ⟨gb176, 0, none⟩ (.int .i64 t174)).setCell ⟨gb176, 1, none⟩ (.bool false)).heap[gb169]? = some (.cells #[.int .i64 a0_0, .int .i64 a0_1, .int .i64 a0_2, .int .i64 a0_3, .int .i64 a0_4] 60 (0, 0))) := ⟨kp BK169.out⟩
    have n1_ : Aside0 (((w95.setCell ⟨gb176, 0, none⟩ (.int .i64 t174)).setCell ⟨gb176, 1, none⟩ (.bool false)).heap[gb170]? = some (.cells #[.int .i64 a1_0, .int .i64 a1_1, .int .i64 a1_2, .int .i64 a1_3, .int .i64 a1_4] 60 (0, 0))) := ⟨kp BK170.out⟩
    have n2_ : Aside0 (((w95.setCell ⟨gb176, 0, none⟩ (.int .i64 t174)).setCell ⟨gb176, 1, none⟩ (.bool false)).heap[gb171]? = some (.cells #[.int .i64 0, .int .i64 0, .int .i64 0, .int .i64 0] 30 (0, 0))) := ⟨kp BK171.out⟩
    have n3_ : Aside0 (((w95.setCell ⟨gb176, 0, none⟩ (.int .i64 t174)).setCell ⟨gb176, 1, none⟩ (.bool false)).heap[gb176]? = some (.cells #[.int .i64 t174, .bool false] 89 (0, 0))) := ⟨kp (p2_1 (kp (p2_0 (kp BK176.out))))⟩
    have n4_ : Aside0 (Below w.heap.size w ((w95.setCell ⟨gb176, 0, none⟩ (.int .i64 t174)).setCell ⟨gb176, 1, none⟩ (.bool false))) := ⟨bl HB.out⟩
    (try clear BK169)
    (try clear BK170)
    (try clear BK171)
    (try clear BK176)
    (try clear HB)
    generalize ((w95.setCell ⟨gb176, 0, none⟩ (.int .i64 t174)).setCell ⟨gb176, 1, none⟩ (.bool false)) = w98 at n0_ n1_ n2_ n3_ n4_ ⊢
    have BK169 := n0_
    have BK170 := n1_
    have BK171 := n2_
    have BK176 := n3_
    have HB := n4_
    clear n0_ n1_ n2_ n3_ n4_
    (try (rw [drewN_self w98]; generalize hq_ : World.drewN w98 _ = w98; replace BK169 := Aside0.mk (kq hq_ BK169.out); replace BK170 := Aside0.mk (kq hq_ BK170.out); replace BK171 := Aside0.mk (kq hq_ BK171.out); replace BK176 := Aside0.mk (kq hq_ BK176.out); replace HB := Aside0.mk (bq hq_ HB.out); clear hq_))
    replace BK169 := Aside0.mk (blk_drew BK169.out)
    replace BK170 := Aside0.mk (blk_drew BK170.out)
    replace BK171 := Aside0.mk (blk_drew BK171.out)
    replace BK176 := Aside0.mk (blk_drew BK176.out)
    replace HB := Aside0.mk (below_drew1 HB.out)
    refine start_ (n := 11) (S := fun w' => w'.cell? ⟨gb169, 0, none⟩ = some (.int .i64 a0_0) ∧ w'.cell? ⟨gb169, 1, none⟩ = some (.int .i64 a0_1) ∧ w'.cell? ⟨gb169, 2, none⟩ = some (.int .i64 a0_2) ∧ w'.cell? ⟨gb169, 3, none⟩ = some (.int .i64 a0_3) ∧ w'.cell? ⟨gb169, 4, none⟩ = some (.int .i64 a0_4) ∧ w'.cell? ⟨gb170, 0, none⟩ = some (.int .i64 a1_0) ∧ w'.cell? ⟨gb170, 1, none⟩ = some (.int .i64 a1_1) ∧ w'.cell? ⟨gb170, 2, none⟩ = some (.int .i64 a1_2) ∧ w'.cell? ⟨gb170, 3, none⟩ = some (.int .i64 a1_3) ∧ w'.cell? ⟨gb170, 4, none⟩ = some (.int .i64 a1_4)) (ds := []) #[false, false, false, false, false, false, false, false, false, false, false] (by kernel_rfl) rfl rfl ⟨(blk_cell BK169.out 0).trans rfl, (blk_cell BK169.out 1).trans rfl, (blk_cell BK169.out 2).trans rfl, (blk_cell BK169.out 3).trans rfl, (blk_cell BK169.out 4).trans rfl, (blk_cell BK170.out 0).trans rfl, (blk_cell BK170.out 1).trans rfl, (blk_cell BK170.out 2).trans rfl, (blk_cell BK170.out 3).trans rfl, (blk_cell BK170.out 4).trans rfl⟩ (fun hHeld => ?_); refine with_tabW drachmref02_times.tab4 drachmref02_times.bits4 (fun HT_ HW_ => ?_)
    generalize w98.drew = w99 at BK169 BK170 BK171 BK176 HB hHeld ⊢
    refine pure_ (i := 0) (N := some 30) (v := ?_) (a' := ?_) #[true, false, false, false, false, false, false, false, false, false, false] rfl rfl (any_of HT_.out (by kernel_rfl)) (fun _ _ _ h => h) (Or.inl ⟨by rfl, ?_⟩) ?_ ?_
    rotate_left
    ·intro w'
     go_simp
     with_reducible rfl
    rotate_left
    ·simp only [Act.put, List.setIfInBounds_toArray, List.set_cons_zero, List.set_cons_succ, i64_w, i32_w]
     rfl
    refine pure_ (i := 2) (N := some 32) (v := ?_) (a' := ?_) #[true, false, true, false, false, false, false, false, false, false, false] rfl rfl (any_of HT_.out (by kernel_rfl)) (fun _ _ _ h => h) (Or.inl ⟨by rfl, ?_⟩) ?_ ?_
    rotate_left
    ·intro w'
     go_simp
     with_reducible rfl
    rotate_left
    ·simp only [Act.put, List.setIfInBounds_toArray, List.set_cons_zero, List.set_cons_succ, i64_w, i32_w]
     rfl
    refine pure_ (i := 4) (N := some 34) (v := ?_) (a' := ?_) #[true, false, true, false, true, false, false, false, false, false, false] rfl rfl (any_of HT_.out (by kernel_rfl)) (fun _ _ _ h => h) (Or.inl ⟨by rfl, ?_⟩) ?_ ?_
    rotate_left
    ·intro w'
     go_simp
     with_reducible rfl
    rotate_left
    ·simp only [Act.put, List.setIfInBounds_toArray, List.set_cons_zero, List.set_cons_succ, i64_w, i32_w]
     rfl
    refine pure_ (i := 6) (N := some 36) (v := ?_) (a' := ?_) #[true, false, true, false, true, false, true, false, false, false, false] rfl rfl (any_of HT_.out (by kernel_rfl)) (fun _ _ _ h => h) (Or.inl ⟨by rfl, ?_⟩) ?_ ?_
    rotate_left
    ·intro w'
     go_simp
     with_reducible rfl
    rotate_left
    ·simp only [Act.put, List.setIfInBounds_toArray, List.set_cons_zero, List.set_cons_succ, i64_w, i32_w]
     rfl
    refine take_ (i := 1) (N := some 31) (v := ?_) (a' := ?_) #[true, true, true, false, true, false, true, false, false, false, false] rfl rfl (take_ofW HT_.out HW_.out (by kernel_rfl)) (fun _ _ _ h => h) (Or.inl ⟨by rfl, ?_⟩) hHeld ?_ ?_
    rotate_left
    ·rintro w' ⟨s0, s1, s2, s3, s4, s5, s6, s7, s8, s9⟩
     go_simp
     with_reducible rfl
    rotate_left
    ·simp only [Act.put, List.setIfInBounds_toArray, List.set_cons_zero, List.set_cons_succ, i64_w, i32_w]
     rfl
    refine pure_ (i := 3) (N := some 33) (v := ?_) (a' := ?_) #[true, true, true, true, true, false, true, false, false, false, false] rfl rfl (any_of HT_.out (by kernel_rfl)) (fun _ _ _ h => h) (Or.inl ⟨by rfl, ?_⟩) ?_ ?_
    rotate_left
    ·intro w'
     go_simp
     with_reducible rfl
    rotate_left
    ·simp only [Act.put, List.setIfInBounds_toArray, List.set_cons_zero, List.set_cons_succ, i64_w, i32_w]
     rfl
    refine take_ (i := 5) (N := some 35) (v := ?_) (a' := ?_) #[true, true, true, true, true, true, true, false, false, false, false] rfl rfl (take_ofW HT_.out HW_.out (by kernel_rfl)) (fun _ _ _ h => h) (Or.inl ⟨by rfl, ?_⟩) hHeld ?_ ?_
    rotate_left
    ·rintro w' ⟨s0, s1, s2, s3, s4, s5, s6, s7, s8, s9⟩
     go_simp
     with_reducible rfl
    rotate_left
    ·simp only [Act.put, List.setIfInBounds_toArray, List.set_cons_zero, List.set_cons_succ, i64_w, i32_w]
     rfl
    refine pure_ (i := 7) (N := some 37) (v := ?_) (a' := ?_) #[true, true, true, true, true, true, true, true, false, false, false] rfl rfl (any_of HT_.out (by kernel_rfl)) (fun _ _ _ h => h) (Or.inl ⟨by rfl, ?_⟩) ?_ ?_
    rotate_left
    ·intro w'
     go_simp
     with_reducible rfl
    rotate_left
    ·simp only [Act.put, List.setIfInBounds_toArray, List.set_cons_zero, List.set_cons_succ, i64_w, i32_w]
     rfl
    refine join_ (σ := Nat) 1 #[true, true, true, true, true, true, true, true, true, true, false] (fun s_ => [(38, .agg #[.int .i64 t177, .bool t178]), (10, .pointer (some ⟨s_, 0, none⟩))]) (fun s_ w' => (w'.cell? ⟨gb169, 0, none⟩ = some (.int .i64 a0_0) ∧ w'.cell? ⟨gb169, 1, none⟩ = some (.int .i64 a0_1) ∧ w'.cell? ⟨gb169, 2, none⟩ = some (.int .i64 a0_2) ∧ w'.cell? ⟨gb169, 3, none⟩ = some (.int .i64 a0_3) ∧ w'.cell? ⟨gb169, 4, none⟩ = some (.int .i64 a0_4) ∧ w'.cell? ⟨gb170, 0, none⟩ = some (.int .i64 a1_0) ∧ w'.cell? ⟨gb170, 1, none⟩ = some (.int .i64 a1_1) ∧ w'.cell? ⟨gb170, 2, none⟩ = some (.int .i64 a1_2) ∧ w'.cell? ⟨gb170, 3, none⟩ = some (.int .i64 a1_3) ∧ w'.cell? ⟨gb170, 4, none⟩ = some (.int .i64 a1_4)) ∧ (w'.heap[gb169]? = some (.cells #[.int .i64 a0_0, .int .i64 a0_1, .int .i64 a0_2, .int .i64 a0_3, .int .i64 a0_4] 60 (0, 0))) ∧ (w'.heap[gb170]? = some (.cells #[.int .i64 a1_0, .int .i64 a1_1, .int .i64 a1_2, .int .i64 a1_3, .int .i64 a1_4] 60 (0, 0))) ∧ (w'.heap[gb171]? = some (.cells #[.int .i64 0, .int .i64 0, .int .i64 0, .int .i64 0] 30 (0, 0))) ∧ (w'.heap[gb176]? = some (.cells #[.int .i64 t174, .bool false] 89 (0, 0))) ∧ (w'.heap[s_]? = some (.cells #[.int .i64 0, .bool false] 89 (0, 0))) ∧ (w.heap.size ≤ s_) ∧ (w.heap.size ≤ s_) ∧ (gb169 ≠ s_) ∧ (s_ ≠ gb169) ∧ (gb170 ≠ s_) ∧ (s_ ≠ gb170) ∧ (gb171 ≠ s_) ∧ (s_ ≠ gb171) ∧ (gb176 ≠ s_) ∧ (s_ ≠ gb176) ∧ (Below w.heap.size w w')) ?_ ?_
    rotate_left
    ·intro hCont
     refine two_ (i := 8) (j := 9) (Ni := some 38) (Nj := some 10) #[true, true, true, true, true, true, true, true, true, false, false] #[true, true, true, true, true, true, true, true, false, true, false] rfl rfl rfl rfl (two_of HT_.out (by kernel_rfl)) (by decide) (by decide) (fun K hK => ?_) (fun K hK => ?_)
     ·skip
      refine goes_ Tryd.func50 (by kernel_rfl) rfl #[.int .i64 (wrap64 (Int.tdiv a0_2 t173)), .int .i64 (wrap64 (Int.tdiv a1_2 t172))] (by rfl) rfl rfl (by (try simp only [List.map_toArray, List.map_cons, List.map_nil]); first | done | rfl | (simp only [List.length_drop, List.length_take]; rfl)) ?_
      with_reducible refine (drachmref01_Mul.calls k (wrap64 (Int.tdiv a0_2 t173)) (wrap64 (Int.tdiv a1_2 t172)) t177 t178 _ A9.out).mono ?_
      rintro e w100 ⟨rfl, hb⟩
      refine ⟨_, rfl, ?_⟩
      replace BK169 := Aside0.mk (blk_below (kp BK169.out) hb)
      replace BK170 := Aside0.mk (blk_below (kp BK170.out) hb)
      replace BK171 := Aside0.mk (blk_below (kp BK171.out) hb)
      replace BK176 := Aside0.mk (blk_below (kp BK176.out) hb)
      replace HB := Aside0.mk (below_step (bl HB.out) hb)
      (try clear hb)
      (try clear hb2)
      (try clear hk)
      (try clear hi)
      refine hK.out _ _ ⟨(blk_cell BK169.out 0).trans rfl, (blk_cell BK169.out 1).trans rfl, (blk_cell BK169.out 2).trans rfl, (blk_cell BK169.out 3).trans rfl, (blk_cell BK169.out 4).trans rfl, (blk_cell BK170.out 0).trans rfl, (blk_cell BK170.out 1).trans rfl, (blk_cell BK170.out 2).trans rfl, (blk_cell BK170.out 3).trans rfl, (blk_cell BK170.out 4).trans rfl⟩ (fun hHeld => ?_)
      clear hK K
      refine norm_ (a' := ?_) ?_ ?_
      rotate_left
      ·show Act.put _ (some 38) _ = _
       simp only [Act.put, List.setIfInBounds_toArray, List.set_cons_zero, List.set_cons_succ, i64_w, i32_w]
       rfl
      refine one_ (i := 9) (N := some 10) #[true, true, true, true, true, true, true, true, true, true, false] rfl rfl (one_of HT_.out (by kernel_rfl)) (by decide) (fun K hK => ?_)
      refine box_step ?hg (N := 10) ?hd (cs := #[.int .i64 0, .bool false]) (t := 89) ?hr ?_; (case hd => rfl); (case hg => rfl); (case hr => first | (go_simp; done) | (go_simp; rfl))
      intro gb179 hg w101 hbox hb
      have n0_ := Aside0.mk (blk_below (kp BK169.out) hb)
      have n1_ := Aside0.mk (blk_below (kp BK170.out) hb)
      have n2_ := Aside0.mk (blk_below (kp BK171.out) hb)
      have n3_ := Aside0.mk (blk_below (kp BK176.out) hb)
      have n4_ := Aside0.mk (below_step (bl HB.out) hb)
      have n5_ := Aside0.mk (hbox)
      have n6_ := Aside0.mk ((by rw [hg]; exact (below_size (bl HB.out)) : w.heap.size ≤ gb179))
      have n7_ := Aside0.mk ((by rw [hg]; exact (below_size (bl HB.out)) : w.heap.size ≤ gb179))
      have n8_ := Aside0.mk ((by rw [hg]; exact Nat.ne_of_lt (blk_lt (kp BK169.out)) : gb169 ≠ gb179))
      have n9_ := Aside0.mk ((by rw [hg]; exact Nat.ne_of_gt (blk_lt (kp BK169.out)) : gb179 ≠ gb169))
      have n10_ := Aside0.mk ((by rw [hg]; exact Nat.ne_of_lt (blk_lt (kp BK170.out)) : gb170 ≠ gb179))
      have n11_ := Aside0.mk ((by rw [hg]; exact Nat.ne_of_gt (blk_lt (kp BK170.out)) : gb179 ≠ gb170))
      have n12_ := Aside0.mk ((by rw [hg]; exact Nat.ne_of_lt (blk_lt (kp BK171.out)) : gb171 ≠ gb179))
      have n13_ := Aside0.mk ((by rw [hg]; exact Nat.ne_of_gt (blk_lt (kp BK171.out)) : gb179 ≠ gb171))
      have n14_ := Aside0.mk ((by rw [hg]; exact Nat.ne_of_lt (blk_lt (kp BK176.out)) : gb176 ≠ gb179))
      have n15_ := Aside0.mk ((by rw [hg]; exact Nat.ne_of_gt (blk_lt (kp BK176.out)) : gb179 ≠ gb176))
      clear BK169
      clear BK170
      clear BK171
      clear BK176
      clear HB
      have BK169 := n0_
      have BK170 := n1_
      have BK171 := n2_
      have BK176 := n3_
      have HB := n4_
      have BK179 := n5_
      have GW179 := n6_
      have GE179 := n7_
      have NB169_179 := n8_
      have NB179_169 := n9_
      have NB170_179 := n10_
      have NB179_170 := n11_
      have NB171_179 := n12_
      have NB179_171 := n13_
      have NB176_179 := n14_
      have NB179_176 := n15_
      clear n0_ n1_ n2_ n3_ n4_ n5_ n6_ n7_ n8_ n9_ n10_ n11_ n12_ n13_ n14_ n15_
      clear hb hbox hg
      refine hK.out _ _ ⟨(blk_cell BK169.out 0).trans rfl, (blk_cell BK169.out 1).trans rfl, (blk_cell BK169.out 2).trans rfl, (blk_cell BK169.out 3).trans rfl, (blk_cell BK169.out 4).trans rfl, (blk_cell BK170.out 0).trans rfl, (blk_cell BK170.out 1).trans rfl, (blk_cell BK170.out 2).trans rfl, (blk_cell BK170.out 3).trans rfl, (blk_cell BK170.out 4).trans rfl⟩ (fun hHeld => ?_)
      clear hK K
      refine norm_ (a' := ?_) ?_ ?_
      rotate_left
      ·show Act.put _ (some 10) _ = _
       simp only [Act.put, List.setIfInBounds_toArray, List.set_cons_zero, List.set_cons_succ, i64_w, i32_w]
       rfl
      exact norm_ (by simp only [putAll, Act.put, List.setIfInBounds_toArray, List.set_cons_zero, List.set_cons_succ]) (hCont (gb179) _ ⟨hHeld, (kp BK169.out), (kp BK170.out), (kp BK171.out), (kp BK176.out), (kp BK179.out), GW179.out, GE179.out, NB169_179.out, NB179_169.out, NB170_179.out, NB179_170.out, NB171_179.out, NB179_171.out, NB176_179.out, NB179_176.out, (bl HB.out)⟩)
     ·skip
      refine box_step ?hg (N := 10) ?hd (cs := #[.int .i64 0, .bool false]) (t := 89) ?hr ?_; (case hd => rfl); (case hg => rfl); (case hr => first | (go_simp; done) | (go_simp; rfl))
      intro gb179 hg w100 hbox hb
      have n0_ := Aside0.mk (blk_below (kp BK169.out) hb)
      have n1_ := Aside0.mk (blk_below (kp BK170.out) hb)
      have n2_ := Aside0.mk (blk_below (kp BK171.out) hb)
      have n3_ := Aside0.mk (blk_below (kp BK176.out) hb)
      have n4_ := Aside0.mk (below_step (bl HB.out) hb)
      have n5_ := Aside0.mk (hbox)
      have n6_ := Aside0.mk ((by rw [hg]; exact (below_size (bl HB.out)) : w.heap.size ≤ gb179))
      have n7_ := Aside0.mk ((by rw [hg]; exact (below_size (bl HB.out)) : w.heap.size ≤ gb179))
      have n8_ := Aside0.mk ((by rw [hg]; exact Nat.ne_of_lt (blk_lt (kp BK169.out)) : gb169 ≠ gb179))
      have n9_ := Aside0.mk ((by rw [hg]; exact Nat.ne_of_gt (blk_lt (kp BK169.out)) : gb179 ≠ gb169))
      have n10_ := Aside0.mk ((by rw [hg]; exact Nat.ne_of_lt (blk_lt (kp BK170.out)) : gb170 ≠ gb179))
      have n11_ := Aside0.mk ((by rw [hg]; exact Nat.ne_of_gt (blk_lt (kp BK170.out)) : gb179 ≠ gb170))
      have n12_ := Aside0.mk ((by rw [hg]; exact Nat.ne_of_lt (blk_lt (kp BK171.out)) : gb171 ≠ gb179))
      have n13_ := Aside0.mk ((by rw [hg]; exact Nat.ne_of_gt (blk_lt (kp BK171.out)) : gb179 ≠ gb171))
      have n14_ := Aside0.mk ((by rw [hg]; exact Nat.ne_of_lt (blk_lt (kp BK176.out)) : gb176 ≠ gb179))
      have n15_ := Aside0.mk ((by rw [hg]; exact Nat.ne_of_gt (blk_lt (kp BK176.out)) : gb179 ≠ gb176))
      clear BK169
      clear BK170
      clear BK171
      clear BK176
      clear HB
      have BK169 := n0_
      have BK170 := n1_
      have BK171 := n2_
      have BK176 := n3_
      have HB := n4_
      have BK179 := n5_
      have GW179 := n6_
      have GE179 := n7_
      have NB169_179 := n8_
      have NB179_169 := n9_
      have NB170_179 := n10_
      have NB179_170 := n11_
      have NB171_179 := n12_
      have NB179_171 := n13_
      have NB176_179 := n14_
      have NB179_176 := n15_
      clear n0_ n1_ n2_ n3_ n4_ n5_ n6_ n7_ n8_ n9_ n10_ n11_ n12_ n13_ n14_ n15_
      clear hb hbox hg
      refine hK.out _ _ ⟨(blk_cell BK169.out 0).trans rfl, (blk_cell BK169.out 1).trans rfl, (blk_cell BK169.out 2).trans rfl, (blk_cell BK169.out 3).trans rfl, (blk_cell BK169.out 4).trans rfl, (blk_cell BK170.out 0).trans rfl, (blk_cell BK170.out 1).trans rfl, (blk_cell BK170.out 2).trans rfl, (blk_cell BK170.out 3).trans rfl, (blk_cell BK170.out 4).trans rfl⟩ (fun hHeld => ?_)
      clear hK K
      refine norm_ (a' := ?_) ?_ ?_
      rotate_left
      ·show Act.put _ (some 10) _ = _
       simp only [Act.put, List.setIfInBounds_toArray, List.set_cons_zero, List.set_cons_succ, i64_w, i32_w]
       rfl
      refine one_ (i := 8) (N := some 38) #[true, true, true, true, true, true, true, true, true, true, false] rfl rfl (one_of HT_.out (by kernel_rfl)) (by decide) (fun K hK => ?_)
      refine goes_ Tryd.func50 (by kernel_rfl) rfl #[.int .i64 (wrap64 (Int.tdiv a0_2 t173)), .int .i64 (wrap64 (Int.tdiv a1_2 t172))] (by rfl) rfl rfl (by (try simp only [List.map_toArray, List.map_cons, List.map_nil]); first | done | rfl | (simp only [List.length_drop, List.length_take]; rfl)) ?_
      with_reducible refine (drachmref01_Mul.calls k (wrap64 (Int.tdiv a0_2 t173)) (wrap64 (Int.tdiv a1_2 t172)) t177 t178 _ A9.out).mono ?_
      rintro e w101 ⟨rfl, hb⟩
      refine ⟨_, rfl, ?_⟩
      replace BK169 := Aside0.mk (blk_below (kp BK169.out) hb)
      replace BK170 := Aside0.mk (blk_below (kp BK170.out) hb)
      replace BK171 := Aside0.mk (blk_below (kp BK171.out) hb)
      replace BK176 := Aside0.mk (blk_below (kp BK176.out) hb)
      replace BK179 := Aside0.mk (blk_below (kp BK179.out) hb)
      replace HB := Aside0.mk (below_step (bl HB.out) hb)
      (try clear hb)
      (try clear hb2)
      (try clear hk)
      (try clear hi)
      refine hK.out _ _ ⟨(blk_cell BK169.out 0).trans rfl, (blk_cell BK169.out 1).trans rfl, (blk_cell BK169.out 2).trans rfl, (blk_cell BK169.out 3).trans rfl, (blk_cell BK169.out 4).trans rfl, (blk_cell BK170.out 0).trans rfl, (blk_cell BK170.out 1).trans rfl, (blk_cell BK170.out 2).trans rfl, (blk_cell BK170.out 3).trans rfl, (blk_cell BK170.out 4).trans rfl⟩ (fun hHeld => ?_)
      clear hK K
      refine norm_ (a' := ?_) ?_ ?_
      rotate_left
      ·show Act.put _ (some 38) _ = _
       simp only [Act.put, List.setIfInBounds_toArray, List.set_cons_zero, List.set_cons_succ, i64_w, i32_w]
       rfl
      exact norm_ (by simp only [putAll, Act.put, List.setIfInBounds_toArray, List.set_cons_zero, List.set_cons_succ]) (hCont (gb179) _ ⟨hHeld, (kp BK169.out), (kp BK170.out), (kp BK171.out), (kp BK176.out), (kp BK179.out), GW179.out, GE179.out, NB169_179.out, NB179_169.out, NB170_179.out, NB179_170.out, NB171_179.out, NB179_171.out, NB176_179.out, NB179_176.out, (bl HB.out)⟩)
    rintro gb179 w102 ⟨hS_, h0_, h1_, h2_, h3_, h4_, h5_, h6_, h7_, h8_, h9_, h10_, h11_, h12_, h13_, h14_, h15_⟩
    have BK179 : Aside0 (w102.heap[gb179]? = some (.cells #[.int .i64 0, .bool false] 89 (0, 0))) := ⟨h4_⟩
    have GW179 : Aside0 (w.heap.size ≤ gb179) := ⟨h5_⟩
    have GE179 : Aside0 (w.heap.size ≤ gb179) := ⟨h6_⟩
    have NB169_179 : Aside0 (gb169 ≠ gb179) := ⟨h7_⟩
    have NB179_169 : Aside0 (gb179 ≠ gb169) := ⟨h8_⟩
    have NB170_179 : Aside0 (gb170 ≠ gb179) := ⟨h9_⟩
    have NB179_170 : Aside0 (gb179 ≠ gb170) := ⟨h10_⟩
    have NB171_179 : Aside0 (gb171 ≠ gb179) := ⟨h11_⟩
    have NB179_171 : Aside0 (gb179 ≠ gb171) := ⟨h12_⟩
    have NB176_179 : Aside0 (gb176 ≠ gb179) := ⟨h13_⟩
    have NB179_176 : Aside0 (gb179 ≠ gb176) := ⟨h14_⟩
    replace BK169 : Aside0 (w102.heap[gb169]? = some (.cells #[.int .i64 a0_0, .int .i64 a0_1, .int .i64 a0_2, .int .i64 a0_3, .int .i64 a0_4] 60 (0, 0))) := ⟨h0_⟩
    replace BK170 : Aside0 (w102.heap[gb170]? = some (.cells #[.int .i64 a1_0, .int .i64 a1_1, .int .i64 a1_2, .int .i64 a1_3, .int .i64 a1_4] 60 (0, 0))) := ⟨h1_⟩
    replace BK171 : Aside0 (w102.heap[gb171]? = some (.cells #[.int .i64 0, .int .i64 0, .int .i64 0, .int .i64 0] 30 (0, 0))) := ⟨h2_⟩
    replace BK176 : Aside0 (w102.heap[gb176]? = some (.cells #[.int .i64 t174, .bool false] 89 (0, 0))) := ⟨h3_⟩
    replace HB : Aside0 (Below w.heap.size w w102) := ⟨h15_⟩
    clear h0_ h1_ h2_ h3_ h4_ h5_ h6_ h7_ h8_ h9_ h10_ h11_ h12_ h13_ h14_ h15_
    have hHeld : w102.cell? ⟨gb169, 0, none⟩ = some (.int .i64 a0_0) ∧ w102.cell? ⟨gb169, 1, none⟩ = some (.int .i64 a0_1) ∧ w102.cell? ⟨gb169, 2, none⟩ = some (.int .i64 a0_2) ∧ w102.cell? ⟨gb169, 3, none⟩ = some (.int .i64 a0_3) ∧ w102.cell? ⟨gb169, 4, none⟩ = some (.int .i64 a0_4) ∧ w102.cell? ⟨gb170, 0, none⟩ = some (.int .i64 a1_0) ∧ w102.cell? ⟨gb170, 1, none⟩ = some (.int .i64 a1_1) ∧ w102.cell? ⟨gb170, 2, none⟩ = some (.int .i64 a1_2) ∧ w102.cell? ⟨gb170, 3, none⟩ = some (.int .i64 a1_3) ∧ w102.cell? ⟨gb170, 4, none⟩ = some (.int .i64 a1_4) := hS_
    refine norm_ (a' := ?_) ?_ ?_
    rotate_left
    ·simp only [putAll, Act.put, List.setIfInBounds_toArray, List.set_cons_zero, List.set_cons_succ]
     rfl
    refine one_ (i := 10) (N := none) #[true, true, true, true, true, true, true, true, true, true, true] rfl rfl (one_of HT_.out (by kernel_rfl)) (by decide) (fun K hK => ?_)
    have hs103 : w102.cell? ⟨gb179, 0, none⟩ = some (.int .i64 0) := (blk_cell BK179.out 0).trans rfl
    have hfs103 := blk_frozen BK179.out 0
    have hns103_0 := NB169_179.out
    have hns103_1 := NB170_179.out
    have hns103_2 := NB171_179.out
    have hns103_3 := NB176_179.out
    have hms103_0 := NB179_169.out
    have hms103_1 := NB179_170.out
    have hms103_2 := NB179_171.out
    have hms103_3 := NB179_176.out
    have hs104 : w102.cell? ⟨gb179, 1, none⟩ = some (.bool false) := (blk_cell BK179.out 1).trans rfl
    have hfs104 := blk_frozen BK179.out 1
    have hns104_0 := NB169_179.out
    have hns104_1 := NB170_179.out
    have hns104_2 := NB171_179.out
    have hns104_3 := NB176_179.out
    have hms104_0 := NB179_169.out
    have hms104_1 := NB179_170.out
    have hms104_2 := NB179_171.out
    have hms104_3 := NB179_176.out
    refine skip_ (w1 := ?_) (by rfl) rfl ?_ ?_
    rotate_left
    ·go_simp
     rfl
    refine hK.out _ _ ⟨((cell_far (p := ⟨gb179, _, none⟩) NB169_179.out _).trans (((cell_far (p := ⟨gb179, _, none⟩) NB169_179.out _).trans (hHeld.1)))), ((cell_far (p := ⟨gb179, _, none⟩) NB169_179.out _).trans (((cell_far (p := ⟨gb179, _, none⟩) NB169_179.out _).trans (hHeld.2.1)))), ((cell_far (p := ⟨gb179, _, none⟩) NB169_179.out _).trans (((cell_far (p := ⟨gb179, _, none⟩) NB169_179.out _).trans (hHeld.2.2.1)))), ((cell_far (p := ⟨gb179, _, none⟩) NB169_179.out _).trans (((cell_far (p := ⟨gb179, _, none⟩) NB169_179.out _).trans (hHeld.2.2.2.1)))), ((cell_far (p := ⟨gb179, _, none⟩) NB169_179.out _).trans (((cell_far (p := ⟨gb179, _, none⟩) NB169_179.out _).trans (hHeld.2.2.2.2.1)))), ((cell_far (p := ⟨gb179, _, none⟩) NB170_179.out _).trans (((cell_far (p := ⟨gb179, _, none⟩) NB170_179.out _).trans (hHeld.2.2.2.2.2.1)))), ((cell_far (p := ⟨gb179, _, none⟩) NB170_179.out _).trans (((cell_far (p := ⟨gb179, _, none⟩) NB170_179.out _).trans (hHeld.2.2.2.2.2.2.1)))), ((cell_far (p := ⟨gb179, _, none⟩) NB170_179.out _).trans (((cell_far (p := ⟨gb179, _, none⟩) NB170_179.out _).trans (hHeld.2.2.2.2.2.2.2.1)))), ((cell_far (p := ⟨gb179, _, none⟩) NB170_179.out _).trans (((cell_far (p := ⟨gb179, _, none⟩) NB170_179.out _).trans (hHeld.2.2.2.2.2.2.2.2.1)))), ((cell_far (p := ⟨gb179, _, none⟩) NB170_179.out _).trans (((cell_far (p := ⟨gb179, _, none⟩) NB170_179.out _).trans (hHeld.2.2.2.2.2.2.2.2.2))))⟩ (fun hHeld => ?_)
    clear hK K
    refine done_ (done_of HT_.out (by kernel_rfl)) ?_
    have hnb105 := NB176_169.out
    have hnc105 := NB169_176.out
    have hnb106 := NB176_170.out
    have hnc106 := NB170_176.out
    have hnb107 := NB176_171.out
    have hnc107 := NB171_176.out
    have hnb108 := NB176_179.out
    have hnc108 := NB179_176.out
    obtain ⟨hcz109_0, hcz109_1⟩ := hc2 BK176.out
    obtain ⟨hfz109_0, hfz109_1⟩ := hf2 BK176.out
    have hnb110 := NB171_179.out
    have hnc110 := NB179_171.out
    obtain ⟨hcz111_0, hcz111_1, hcz111_2, hcz111_3⟩ := hc4 BK171.out
    obtain ⟨hfz111_0, hfz111_1, hfz111_2, hfz111_3⟩ := hf4 BK171.out
    try go_wp2
    refine bodyPost_ret (results_cell_row rfl _ _ gb171 30 #[.int .i64 0, .int .i64 0, .int .i64 0, .int .i64 10] (0, 0) _ rfl (kp (p4_3 (kp (p4_2 (kp (p4_1 (kp (p4_0 (kp BK171.out))))))))) Tryd.underlying30 rfl (by kernel_rfl)) rfl ?_
    exact ⟨by first | rfl | (simp [errW_none, errW_some] <;> rfl) | (simp [*, errW_none, errW_some] <;> rfl), bl HB.out⟩

end Go.Proofs.YtnndaackjgnhhaaDoor.PB
