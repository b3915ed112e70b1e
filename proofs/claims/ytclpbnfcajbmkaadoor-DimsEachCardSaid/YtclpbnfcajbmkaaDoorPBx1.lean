/- Printed by a program of this session (wip/tools/prt.py) out of the translation: plain functions, and that the calls come to just them. No conditions beyond those that stand in each theorem. -/
import Derived.Test.YtclpbnfcajbmkaaDoorPBx0
namespace Go.Proofs.YtclpbnfcajbmkaaDoor.PB
open Go.Proofs.YtclpbnfcajbmkaaDoor.Sq Go.RowKit Go.Proofs.YtclpbnfcajbmkaaDoorW.PrintWords Go.Proofs.YtclpbnfcajbmkaaDoorW.PrintLast Go.Proofs.YtclpbnfcajbmkaaDoorW.PrintMore
attribute [local go_sem] max2_int min2_int max_two min_two max_three min_three max_four min_four   -- for this text's walks alone
set_option linter.unusedVariables false
set_option linter.unusedSimpArgs false

/-! ### drachmref03_digits: function 40 -/
def drachmref03_digits.f : Nat → Int → Option (ByteArray)
 | 0, _ => none
 | k + 1, a0 => if a0 < 0 then ((drachmref03_digits.f k (wrap64 (-a0))).bind fun t101 => (if 1 + t101.size ≤ 9223372036854775807 then (some ((⟨#[45]⟩ : ByteArray) ++ t101)) else (none))) else (if a0 ≥ 10 then ((drachmref03_digits.f k (wrap64 (Int.tdiv a0 10))).bind fun t102 => ((some (([(wrap64 (48 + (Int.tmod a0 10))) % 256] : List Int) : List Int)).bind fun y103 => (if t102.size + (strOfNums y103).size ≤ 9223372036854775807 then (some (t102 ++ (strOfNums y103))) else (none)))) else (some (strOfNums (([(wrap64 (48 + a0)) % 256] : List Int)))))
theorem drachmref03_digits.mono_l : ∀ k, (∀ y0, LeO (drachmref03_digits.f k y0) (drachmref03_digits.f (k + 1) y0))
 | 0 => fun _ r h => by simp [drachmref03_digits.f] at h
 | k + 1 => by
  have ih0 := drachmref03_digits.mono_l k
  ·intro y0
   unfold drachmref03_digits.f
   repeat' first
   | (with_reducible exact ih0 _)
   | (with_reducible exact LeO.refl _)
   | (with_reducible exact LeO.none _)
   | (with_reducible refine LeO.ite ?_ ?_)
   | (with_reducible refine LeO.bind ?_ (fun _ => ?_))
   | exact ih0 _
   | exact LeO.none _
   | refine LeO.ite ?_ ?_
   | refine LeO.bind ?_ (fun _ => ?_)
theorem drachmref03_digits.mono : ∀ a0 k, LeO (drachmref03_digits.f k a0) (drachmref03_digits.f (k + 1) a0) := by
 intro a0 k
 have ih0 := drachmref03_digits.mono_l k
 exact ih0 a0
def drachmref03_digits.T4 : Bool × List (List Nat × List Nat) := (true, [([], []), ([0], [0]), ([1], [1]), ([], []), ([3], [3]), ([4], [4]), ([5], [5]), ([6], [6]), ([7], [7]), ([2, 8], [2, 8]), ([9, 2, 0, 1, 2, 3, 4, 5, 6, 7, 8, 9], [9])])
def drachmref03_digits.B4 : List Nat := [0, 1, 3, 0, 8, 24, 56, 120, 248, 511, 1023]
theorem drachmref03_digits.tab4 : rtab .any (opsOf Tryd.f40 4) = drachmref03_digits.T4 := by kernel_rfl
theorem drachmref03_digits.bits4 : waitsOk drachmref03_digits.T4.2 drachmref03_digits.B4 = true := by kernel_rfl
set_option maxHeartbeats 8000000 in
set_option maxRecDepth 100000 in
theorem drachmref03_digits.calls (k : Nat) : ∀ (a0 : Int) (r : ByteArray) (w : World) (h : drachmref03_digits.f k a0 = some r),
  Calls Tryd.prog 40 #[.int .i64 a0] w fun e w' => e = .returned (.string r) ∧ Below w.heap.size w w' := by
 induction k using Nat.strongRecOn with
 | _ k ih =>
 intro a0 r w h
 cases k with
 | zero => exact absurd h (by simp [drachmref03_digits.f])
 | succ k =>
 simp only [drachmref03_digits.f] at h
 have HB := Aside0.mk (Below.refl w.heap.size w)
 have H : (if a0 < 0 then ((drachmref03_digits.f k (wrap64 (-a0))).bind fun t101 => (if 1 + t101.size ≤ 9223372036854775807 then (some ((⟨#[45]⟩ : ByteArray) ++ t101)) else (none))) else (if a0 ≥ 10 then ((drachmref03_digits.f k (wrap64 (Int.tdiv a0 10))).bind fun t102 => ((some (([(wrap64 (48 + (Int.tmod a0 10))) % 256] : List Int) : List Int)).bind fun y103 => (if t102.size + (strOfNums y103).size ≤ 9223372036854775807 then (some (t102 ++ (strOfNums y103))) else (none)))) else (some (strOfNums (([(wrap64 (48 + a0)) % 256] : List Int)))))) = some r := h
 clear h
 by_cases c2 : a0 < 0
 ·rw [if_pos c2] at H
  have c2b0 : decide (a0 < 0) = true := decide_eq_true c2
  clear c2
  replace H := Option.bind_eq_some_iff.mp H
  obtain ⟨t101, A30, H⟩ := H
  replace H : (if 1 + t101.size ≤ 9223372036854775807 then (some ((⟨#[45]⟩ : ByteArray) ++ t101)) else (none)) = some r := H
  have A3 := Aside0.mk A30
  clear A30
  by_cases c4 : 1 + t101.size ≤ 9223372036854775807
  ·rw [if_pos c4] at H
   have c4b0 := eq_true c4
   have c4b1 : decide (1 + t101.size ≤ 9223372036854775807) = true := decide_eq_true c4
   try have c4b2 : (9223372036854775807 < 1 + t101.size) = False := eq_false (Nat.not_lt.2 c4)
   obtain rfl := Option.some.inj H
   go_enter Tryd.func40, Tryd.ntmps40
   go_wp2_with (first | ((with_reducible refine gate_callee (f := 40) rfl ?_); refine goesL_ (some 7) rfl rfl Tryd.func40 (by kernel_rfl) rfl #[.int .i64 (wrap64 (-a0))] rfl (by (try simp only [List.map_toArray, List.map_cons, List.map_nil]); first | done | rfl | (simp only [List.length_drop, List.length_take]; rfl)) ?_; (with_reducible refine (ih k (by omega) (wrap64 (-a0)) t101 _ A3.out).mono ?_); rintro e w5 ⟨rfl, hb⟩; refine ⟨_, rfl, ?_⟩; replace HB := Aside0.mk (below_step (bl HB.out) hb); (try clear hb); (try clear hb2); (try clear hk); (try clear hi)))
   go_ret
   exact ⟨by first | rfl | (simp [errW_none, errW_some] <;> rfl) | (simp [*, errW_none, errW_some] <;> rfl), bl HB.out⟩
  ·rw [if_neg c4] at H
   exact absurd H (by simp)
 ·rw [if_neg c2] at H
  have c2b0 : decide (a0 < 0) = false := decide_eq_false c2
  clear c2
  by_cases c6 : a0 ≥ 10
  ·rw [if_pos c6] at H
   have c6b0 : decide (10 ≤ a0) = true := decide_eq_true c6
   clear c6
   replace H := Option.bind_eq_some_iff.mp H
   obtain ⟨t102, A70, H⟩ := H
   replace H : ((some (([(wrap64 (48 + (Int.tmod a0 10))) % 256] : List Int) : List Int)).bind fun y103 => (if t102.size + (strOfNums y103).size ≤ 9223372036854775807 then (some (t102 ++ (strOfNums y103))) else (none))) = some r := H
   have A7 := Aside0.mk A70
   clear A70
   obtain ⟨y103, hy103⟩ : ∃ y_ : List Int, y_ = (([(wrap64 (48 + (Int.tmod a0 10))) % 256] : List Int)) := ⟨_, rfl⟩
   replace H : (if t102.size + (strOfNums y103).size ≤ 9223372036854775807 then (some (t102 ++ (strOfNums y103))) else (none)) = some r := by first | (rw [hy103]; with_reducible exact H) | (have H2_ := (Option.bind_some _ _).symm.trans H; rw [hy103]; with_reducible exact H2_) | (have H2_ := (Option.bind_some _ _).symm.trans H; with_reducible exact H2_) | with_reducible exact H | (rw [hy103]; exact H) | exact H
   have Ny103 := Aside0.mk hy103
   clear hy103
   by_cases c8 : t102.size + (strOfNums y103).size ≤ 9223372036854775807
   ·rw [if_pos c8] at H
    have c8b0 := eq_true c8
    have c8b1 : decide (t102.size + (strOfNums y103).size ≤ 9223372036854775807) = true := decide_eq_true c8
    try have c8b2 : (9223372036854775807 < t102.size + (strOfNums y103).size) = False := eq_false (Nat.not_lt.2 c8)
    obtain rfl := Option.some.inj H
    go_enter Tryd.func40, Tryd.ntmps40
    try go_wp2
    replace HB := Aside0.mk (below_drew1 HB.out)
    refine start_ (n := 11) (S := fun w' => True) (ds := []) #[false, false, false, false, false, false, false, false, false, false, false] (by kernel_rfl) rfl rfl trivial (fun hHeld => ?_); refine with_tabW drachmref03_digits.tab4 drachmref03_digits.bits4 (fun HT_ HW_ => ?_)
    generalize w.drew = w9 at HB hHeld ⊢
    refine pure_ (i := 0) (N := some 11) (v := ?_) (a' := ?_) #[true, false, false, false, false, false, false, false, false, false, false] rfl rfl (any_of HT_.out (by kernel_rfl)) (fun _ _ _ h => h) (Or.inl ⟨by rfl, ?_⟩) ?_ ?_
    rotate_left
    ·intro w'
     go_simp
     first | with_reducible rfl | (rw [if_neg (by simp only [lit_size, List.length_cons, List.length_nil, ByteArray.size_extract, ByteArray.size_append, eq_iff_iff, iff_true, iff_false] at *; omega)])
    rotate_left
    ·simp only [Act.put, List.setIfInBounds_toArray, List.set_cons_zero, List.set_cons_succ, i64_w, i32_w]
     rfl
    refine pure_ (i := 1) (N := some 12) (v := ?_) (a' := ?_) #[true, true, false, false, false, false, false, false, false, false, false] rfl rfl (any_of HT_.out (by kernel_rfl)) (fun _ _ _ h => h) (Or.inl ⟨by rfl, ?_⟩) ?_ ?_
    rotate_left
    ·intro w'
     go_simp
     first | with_reducible rfl | (rw [if_neg (by simp only [lit_size, List.length_cons, List.length_nil, ByteArray.size_extract, ByteArray.size_append, eq_iff_iff, iff_true, iff_false] at *; omega)])
    rotate_left
    ·simp only [Act.put, List.setIfInBounds_toArray, List.set_cons_zero, List.set_cons_succ, i64_w, i32_w]
     rfl
    refine pure_ (i := 3) (N := some 14) (v := ?_) (a' := ?_) #[true, true, false, true, false, false, false, false, false, false, false] rfl rfl (any_of HT_.out (by kernel_rfl)) (fun _ _ _ h => h) (Or.inl ⟨by rfl, ?_⟩) ?_ ?_
    rotate_left
    ·intro w'
     go_simp
     first | with_reducible rfl | (rw [if_neg (by simp only [lit_size, List.length_cons, List.length_nil, ByteArray.size_extract, ByteArray.size_append, eq_iff_iff, iff_true, iff_false] at *; omega)])
    rotate_left
    ·simp only [Act.put, List.setIfInBounds_toArray, List.set_cons_zero, List.set_cons_succ, i64_w, i32_w]
     rfl
    refine pure_ (i := 4) (N := some 15) (v := ?_) (a' := ?_) #[true, true, false, true, true, false, false, false, false, false, false] rfl rfl (any_of HT_.out (by kernel_rfl)) (fun _ _ _ h => h) (Or.inl ⟨by rfl, ?_⟩) ?_ ?_
    rotate_left
    ·intro w'
     go_simp
     first | with_reducible rfl | (rw [if_neg (by simp only [lit_size, List.length_cons, List.length_nil, ByteArray.size_extract, ByteArray.size_append, eq_iff_iff, iff_true, iff_false] at *; omega)])
    rotate_left
    ·simp only [Act.put, List.setIfInBounds_toArray, List.set_cons_zero, List.set_cons_succ, i64_w, i32_w]
     rfl
    refine pure_ (i := 5) (N := some 16) (v := ?_) (a' := ?_) #[true, true, false, true, true, true, false, false, false, false, false] rfl rfl (any_of HT_.out (by kernel_rfl)) (fun _ _ _ h => h) (Or.inl ⟨by rfl, ?_⟩) ?_ ?_
    rotate_left
    ·intro w'
     go_simp
     first | with_reducible rfl | (rw [if_neg (by simp only [lit_size, List.length_cons, List.length_nil, ByteArray.size_extract, ByteArray.size_append, eq_iff_iff, iff_true, iff_false] at *; omega)])
    rotate_left
    ·simp only [Act.put, List.setIfInBounds_toArray, List.set_cons_zero, List.set_cons_succ, i64_w, i32_w]
     rfl
    refine pure_ (i := 6) (N := some 17) (v := ?_) (a' := ?_) #[true, true, false, true, true, true, true, false, false, false, false] rfl rfl (any_of HT_.out (by kernel_rfl)) (fun _ _ _ h => h) (Or.inl ⟨by rfl, ?_⟩) ?_ ?_
    rotate_left
    ·intro w'
     go_simp
     first | with_reducible rfl | (rw [if_neg (by simp only [lit_size, List.length_cons, List.length_nil, ByteArray.size_extract, ByteArray.size_append, eq_iff_iff, iff_true, iff_false] at *; omega)])
    rotate_left
    ·simp only [Act.put, List.setIfInBounds_toArray, List.set_cons_zero, List.set_cons_succ, i64_w, i32_w]
     rfl
    refine join_ (σ := Value) 2 #[true, true, true, true, true, true, true, true, true, false, false] (fun s_ => [(13, .string t102), (18, s_), (19, .string (strOfNums y103))]) (fun s_ w' => (Kd.R (Kd.int .u8) 5 w' w.heap.size (fun _ => True) s_ y103) ∧ (Below w.heap.size w w')) ?_ ?_
    rotate_left
    ·intro hCont
     refine two_ (i := 2) (j := 7) (Ni := some 13) (Nj := some 18) #[true, true, true, true, true, true, true, false, false, false, false] #[true, true, false, true, true, true, true, true, false, false, false] rfl rfl rfl rfl (two_of HT_.out (by kernel_rfl)) (by decide) (by decide) (fun K hK => ?_) (fun K hK => ?_)
     ·skip
      refine goes_ Tryd.func40 (by kernel_rfl) rfl #[.int .i64 (wrap64 (Int.tdiv a0 10))] (by rfl) rfl rfl (by (try simp only [List.map_toArray, List.map_cons, List.map_nil]); first | done | rfl | (simp only [List.length_drop, List.length_take]; rfl)) ?_
      with_reducible refine (ih k (by omega) (wrap64 (Int.tdiv a0 10)) t102 _ A7.out).mono ?_
      rintro e w10 ⟨rfl, hb⟩
      refine ⟨_, rfl, ?_⟩
      replace HB := Aside0.mk (below_step (bl HB.out) hb)
      (try clear hb)
      (try clear hb2)
      (try clear hk)
      (try clear hi)
      refine hK.out _ _ trivial (fun hHeld => ?_)
      clear hK K
      refine norm_ (a' := ?_) ?_ ?_
      rotate_left
      ·show Act.put _ (some 13) _ = _
       simp only [Act.put, List.setIfInBounds_toArray, List.set_cons_zero, List.set_cons_succ, i64_w, i32_w]
       rfl
      refine one_ (i := 7) (N := some 18) #[true, true, true, true, true, true, true, true, false, false, false] rfl rfl (one_of HT_.out (by kernel_rfl)) (by decide) (fun K hK => ?_)
      refine Kd.R_lit_step (Kd.int .u8) _ 5 ?hg (N := 18) ?hd (xs := ([(wrap64 (48 + (Int.tmod a0 10))) % 256] : List Int)) (inner := [.int .u8 ((wrap64 (48 + (Int.tmod a0 10))) % 256)]) (ok := fun _ => True) (okp := fun _ => True) ?hr ?hp (fun _ hk => hk) trivial (Below.refl _ _) (Nat.le_refl _) (by simp) ?_; (case hd => rfl); (case hg => rfl); (case hr => first | (go_simp; done) | (go_simp; rfl)); (case hp => exact (Reps.one (show Kd.M (Kd.int .u8) _ _ _ ((wrap64 (48 + (Int.tmod a0 10))) % 256) [.int .u8 ((wrap64 (48 + (Int.tmod a0 10))) % 256)] from rfl) (Reps.none _ _)))
      intro v104 w11 ho12 hb hg_ hnew_
      clear hg_ hnew_
      (first | rw [← Ny103.out] at ho12 | (simp only [Int.reduceToNat] at ho12; rw [← Ny103.out] at ho12))
      have HO105 := Aside0.mk (Kd.R_lower ho12 (below_size (bl HB.out)))
      replace HB := Aside0.mk (below_step (bl HB.out) hb)
      clear hb ho12
      refine hK.out _ _ trivial (fun hHeld => ?_)
      clear hK K
      refine norm_ (a' := ?_) ?_ ?_
      rotate_left
      ·show Act.put _ (some 18) _ = _
       simp only [Act.put, List.setIfInBounds_toArray, List.set_cons_zero, List.set_cons_succ, i64_w, i32_w]
       rfl
      refine one_ (i := 8) (N := some 19) #[true, true, true, true, true, true, true, true, true, false, false] rfl rfl (one_of HT_.out (by kernel_rfl)) (by decide) (fun K hK => ?_)
      have hcv13 := own_string (P := Tryd.prog) Tryd.underlying52 Tryd.underlying5 Tryd.underlying9 (Kd.own_of_R HO105.out)
      refine value_ (w1 := ?_) (v := ?_) (by rfl) rfl ?_ ?_
      rotate_left 2
      ·go_simp
       constructor
       ·rfl
       ·rfl
      clear hcv13
      refine hK.out _ _ trivial (fun hHeld => ?_)
      clear hK K
      refine norm_ (a' := ?_) ?_ ?_
      rotate_left
      ·show Act.put _ (some 19) _ = _
       simp only [Act.put, List.setIfInBounds_toArray, List.set_cons_zero, List.set_cons_succ, i64_w, i32_w]
       rfl
      exact norm_ (by simp only [putAll, Act.put, List.setIfInBounds_toArray, List.set_cons_zero, List.set_cons_succ]) (hCont (v104) _ ⟨(by (with_reducible repeat (first | apply Kd.R_alloc | apply Kd.R_drewN | apply Kd.R_drew)); exact HO105.out), (bl HB.out)⟩)
     ·skip
      refine Kd.R_lit_step (Kd.int .u8) _ 5 ?hg (N := 18) ?hd (xs := ([(wrap64 (48 + (Int.tmod a0 10))) % 256] : List Int)) (inner := [.int .u8 ((wrap64 (48 + (Int.tmod a0 10))) % 256)]) (ok := fun _ => True) (okp := fun _ => True) ?hr ?hp (fun _ hk => hk) trivial (Below.refl _ _) (Nat.le_refl _) (by simp) ?_; (case hd => rfl); (case hg => rfl); (case hr => first | (go_simp; done) | (go_simp; rfl)); (case hp => exact (Reps.one (show Kd.M (Kd.int .u8) _ _ _ ((wrap64 (48 + (Int.tmod a0 10))) % 256) [.int .u8 ((wrap64 (48 + (Int.tmod a0 10))) % 256)] from rfl) (Reps.none _ _)))
      intro v104 w10 ho11 hb hg_ hnew_
      clear hg_ hnew_
      (first | rw [← Ny103.out] at ho11 | (simp only [Int.reduceToNat] at ho11; rw [← Ny103.out] at ho11))
      have HO105 := Aside0.mk (Kd.R_lower ho11 (below_size (bl HB.out)))
      replace HB := Aside0.mk (below_step (bl HB.out) hb)
      clear hb ho11
      refine hK.out _ _ trivial (fun hHeld => ?_)
      clear hK K
      refine norm_ (a' := ?_) ?_ ?_
      rotate_left
      ·show Act.put _ (some 18) _ = _
       simp only [Act.put, List.setIfInBounds_toArray, List.set_cons_zero, List.set_cons_succ, i64_w, i32_w]
       rfl
      refine two_ (i := 2) (j := 8) (Ni := some 13) (Nj := some 19) #[true, true, true, true, true, true, true, true, false, false, false] #[true, true, false, true, true, true, true, true, true, false, false] rfl rfl rfl rfl (two_of HT_.out (by kernel_rfl)) (by decide) (by decide) (fun K hK => ?_) (fun K hK => ?_)
      ·skip
       refine goes_ Tryd.func40 (by kernel_rfl) rfl #[.int .i64 (wrap64 (Int.tdiv a0 10))] (by rfl) rfl rfl (by (try simp only [List.map_toArray, List.map_cons, List.map_nil]); first | done | rfl | (simp only [List.length_drop, List.length_take]; rfl)) ?_
       with_reducible refine (ih k (by omega) (wrap64 (Int.tdiv a0 10)) t102 _ A7.out).mono ?_
       rintro e w12 ⟨rfl, hb⟩
       refine ⟨_, rfl, ?_⟩
       have n0_ := Aside0.mk (Kd.R_below (by (with_reducible repeat (first | apply Kd.R_alloc | apply Kd.R_drewN | apply Kd.R_drew)); exact HO105.out) hb)
       have n1_ := Aside0.mk (below_step (bl HB.out) hb)
       clear HO105
       clear HB
       have HO105 := n0_
       have HB := n1_
       clear n0_ n1_
       (try clear hb)
       (try clear hb2)
       (try clear hk)
       (try clear hi)
       refine hK.out _ _ trivial (fun hHeld => ?_)
       clear hK K
       refine norm_ (a' := ?_) ?_ ?_
       rotate_left
       ·show Act.put _ (some 13) _ = _
        simp only [Act.put, List.setIfInBounds_toArray, List.set_cons_zero, List.set_cons_succ, i64_w, i32_w]
        rfl
       refine one_ (i := 8) (N := some 19) #[true, true, true, true, true, true, true, true, true, false, false] rfl rfl (one_of HT_.out (by kernel_rfl)) (by decide) (fun K hK => ?_)
       have hcv13 := own_string (P := Tryd.prog) Tryd.underlying52 Tryd.underlying5 Tryd.underlying9 (Kd.own_of_R HO105.out)
       refine value_ (w1 := ?_) (v := ?_) (by rfl) rfl ?_ ?_
       rotate_left 2
       ·go_simp
        constructor
        ·rfl
        ·rfl
       clear hcv13
       refine hK.out _ _ trivial (fun hHeld => ?_)
       clear hK K
       refine norm_ (a' := ?_) ?_ ?_
       rotate_left
       ·show Act.put _ (some 19) _ = _
        simp only [Act.put, List.setIfInBounds_toArray, List.set_cons_zero, List.set_cons_succ, i64_w, i32_w]
        rfl
       exact norm_ (by simp only [putAll, Act.put, List.setIfInBounds_toArray, List.set_cons_zero, List.set_cons_succ]) (hCont (v104) _ ⟨(by (with_reducible repeat (first | apply Kd.R_alloc | apply Kd.R_drewN | apply Kd.R_drew)); exact HO105.out), (bl HB.out)⟩)
      ·skip
       have hcv12 := own_string (P := Tryd.prog) Tryd.underlying52 Tryd.underlying5 Tryd.underlying9 (Kd.own_of_R HO105.out)
       refine value_ (w1 := ?_) (v := ?_) (by rfl) rfl ?_ ?_
       rotate_left 2
       ·go_simp
        constructor
        ·rfl
        ·rfl
       clear hcv12
       refine hK.out _ _ trivial (fun hHeld => ?_)
       clear hK K
       refine norm_ (a' := ?_) ?_ ?_
       rotate_left
       ·show Act.put _ (some 19) _ = _
        simp only [Act.put, List.setIfInBounds_toArray, List.set_cons_zero, List.set_cons_succ, i64_w, i32_w]
        rfl
       refine one_ (i := 2) (N := some 13) #[true, true, true, true, true, true, true, true, true, false, false] rfl rfl (one_of HT_.out (by kernel_rfl)) (by decide) (fun K hK => ?_)
       refine goes_ Tryd.func40 (by kernel_rfl) rfl #[.int .i64 (wrap64 (Int.tdiv a0 10))] (by rfl) rfl rfl (by (try simp only [List.map_toArray, List.map_cons, List.map_nil]); first | done | rfl | (simp only [List.length_drop, List.length_take]; rfl)) ?_
       with_reducible refine (ih k (by omega) (wrap64 (Int.tdiv a0 10)) t102 _ A7.out).mono ?_
       rintro e w13 ⟨rfl, hb⟩
       refine ⟨_, rfl, ?_⟩
       have n0_ := Aside0.mk (Kd.R_below (by (with_reducible repeat (first | apply Kd.R_alloc | apply Kd.R_drewN | apply Kd.R_drew)); exact HO105.out) hb)
       have n1_ := Aside0.mk (below_step (bl HB.out) hb)
       clear HO105
       clear HB
       have HO105 := n0_
       have HB := n1_
       clear n0_ n1_
       (try clear hb)
       (try clear hb2)
       (try clear hk)
       (try clear hi)
       refine hK.out _ _ trivial (fun hHeld => ?_)
       clear hK K
       refine norm_ (a' := ?_) ?_ ?_
       rotate_left
       ·show Act.put _ (some 13) _ = _
        simp only [Act.put, List.setIfInBounds_toArray, List.set_cons_zero, List.set_cons_succ, i64_w, i32_w]
        rfl
       exact norm_ (by simp only [putAll, Act.put, List.setIfInBounds_toArray, List.set_cons_zero, List.set_cons_succ]) (hCont (v104) _ ⟨(by (with_reducible repeat (first | apply Kd.R_alloc | apply Kd.R_drewN | apply Kd.R_drew)); exact HO105.out), (bl HB.out)⟩)
    rintro v104 w14 ⟨h0_, h1_⟩
    have HO105 : Aside0 (Kd.R (Kd.int .u8) 5 w14 w.heap.size (fun _ => True) v104 y103) := ⟨h0_⟩
    replace HB : Aside0 (Below w.heap.size w w14) := ⟨h1_⟩
    clear h0_ h1_
    have hHeld := trivial
    refine norm_ (a' := ?_) ?_ ?_
    rotate_left
    ·simp only [putAll, Act.put, List.setIfInBounds_toArray, List.set_cons_zero, List.set_cons_succ]
     rfl
    refine pure_ (i := 9) (N := some 20) (v := ?_) (a' := ?_) #[true, true, true, true, true, true, true, true, true, true, false] rfl rfl (any_of HT_.out (by kernel_rfl)) (fun _ _ _ h => h) (Or.inl ⟨by rfl, ?_⟩) ?_ ?_
    rotate_left
    ·intro w'
     go_simp
     first | with_reducible rfl | (rw [if_neg (by simp only [lit_size, List.length_cons, List.length_nil, ByteArray.size_extract, ByteArray.size_append, eq_iff_iff, iff_true, iff_false] at *; omega)])
    rotate_left
    ·simp only [Act.put, List.setIfInBounds_toArray, List.set_cons_zero, List.set_cons_succ, i64_w, i32_w]
     rfl
    refine pure_ (i := 10) (N := some 2) (v := ?_) (a' := ?_) #[true, true, true, true, true, true, true, true, true, true, true] rfl rfl (any_of HT_.out (by kernel_rfl)) (fun _ _ _ h => h) (Or.inl ⟨by rfl, ?_⟩) ?_ ?_
    rotate_left
    ·intro w'
     go_simp
     first | with_reducible rfl | (rw [if_neg (by simp only [lit_size, List.length_cons, List.length_nil, ByteArray.size_extract, ByteArray.size_append, eq_iff_iff, iff_true, iff_false] at *; omega)])
    rotate_left
    ·simp only [Act.put, List.setIfInBounds_toArray, List.set_cons_zero, List.set_cons_succ, i64_w, i32_w]
     rfl
    refine done_ (done_of HT_.out (by kernel_rfl)) ?_
    try go_wp2
    go_ret
    exact ⟨by first | rfl | (simp [errW_none, errW_some] <;> rfl) | (simp [*, errW_none, errW_some] <;> rfl), bl HB.out⟩
   ·rw [if_neg c8] at H
    exact absurd H (by simp)
  ·rw [if_neg c6] at H
   have c6b0 : decide (10 ≤ a0) = false := decide_eq_false c6
   clear c6
   obtain ⟨y106, hy106⟩ : ∃ y_ : List Int, y_ = (([(wrap64 (48 + a0)) % 256] : List Int)) := ⟨_, rfl⟩
   replace H : (some (strOfNums y106)) = some r := by first | (rw [hy106]; with_reducible exact H) | (have H2_ := (Option.bind_some _ _).symm.trans H; rw [hy106]; with_reducible exact H2_) | (have H2_ := (Option.bind_some _ _).symm.trans H; with_reducible exact H2_) | with_reducible exact H | (rw [hy106]; exact H) | exact H
   have Ny106 := Aside0.mk hy106
   clear hy106
   obtain rfl := Option.some.inj H
   go_enter Tryd.func40, Tryd.ntmps40
   go_wp2_with (first | ((with_reducible refine gate_dst (N := 24) rfl ?_); refine Kd.R_lit (Kd.int .u8) _ 5 ?hg (N := 24) ?hd (xs := ([(wrap64 (48 + a0)) % 256] : List Int)) (inner := [.int .u8 ((wrap64 (48 + a0)) % 256)]) (ok := fun _ => True) (okp := fun _ => True) ?hr ?hp (fun _ hk => hk) trivial (Below.refl _ _) (Nat.le_refl _) (by simp) ?_; (case hd => rfl); (case hg => rfl); (case hr => first | (go_simp; done) | (go_simp; rfl)); (case hp => exact (Reps.one (show Kd.M (Kd.int .u8) _ _ _ ((wrap64 (48 + a0)) % 256) [.int .u8 ((wrap64 (48 + a0)) % 256)] from rfl) (Reps.none _ _))); intro v107 w15 ho16 hb hg_ hnew_; clear hg_ hnew_; (first | rw [← Ny106.out] at ho16 | (simp only [Int.reduceToNat] at ho16; rw [← Ny106.out] at ho16)); have HO108 := Aside0.mk (Kd.R_lower ho16 (below_size (bl HB.out))); replace HB := Aside0.mk (below_step (bl HB.out) hb); clear hb ho16; have hcv17 := own_string (P := Tryd.prog) Tryd.underlying52 Tryd.underlying5 Tryd.underlying9 (Kd.own_of_R HO108.out)))
   go_ret
   exact ⟨by first | rfl | (simp [errW_none, errW_some] <;> rfl) | (simp [*, errW_none, errW_some] <;> rfl), bl HB.out⟩

/-! ### drachmref03_Text: function 31 -/
def drachmref03_Text.l0 : Nat → ByteArray → Int → Int → Int → Int → Int → Int → Int → Int → Option (ByteArray)
 | 0, _, _, _, _, _, _, _, _, _ => none
 | k + 1, x4, x5, x110000, x110001, x110002, x110003, x110004, x110005, x110006 => if x5 < 7 then (if 0 ≤ x5 then (if (rd [x110000, x110001, x110002, x110003, x110004, x110005, x110006] x5) = 0 then (drachmref03_Text.l0 k x4 (wrap64 (x5 + 1)) x110000 x110001 x110002 x110003 x110004 x110005 x110006) else (if x5 ≤ (wrap64 (x5 + 1)) then (if (wrap64 (x5 + 1)) ≤ 7 then (if x4.size + ((⟨#[109, 115, 103, 114, 107, 99, 100]⟩ : ByteArray).extract (x5 : Int).toNat ((wrap64 (x5 + 1)) : Int).toNat).size ≤ 9223372036854775807 then ((drachmref03_digits.f k (rd [x110000, x110001, x110002, x110003, x110004, x110005, x110006] x5)).bind fun t111 => (if (x4 ++ ((⟨#[109, 115, 103, 114, 107, 99, 100]⟩ : ByteArray).extract (x5 : Int).toNat ((wrap64 (x5 + 1)) : Int).toNat)).size + t111.size ≤ 9223372036854775807 then (drachmref03_Text.l0 k ((x4 ++ ((⟨#[109, 115, 103, 114, 107, 99, 100]⟩ : ByteArray).extract (x5 : Int).toNat ((wrap64 (x5 + 1)) : Int).toNat)) ++ t111) (wrap64 (x5 + 1)) x110000 x110001 x110002 x110003 x110004 x110005 x110006) else (none))) else (none)) else (none)) else (none))) else (none)) else (some x4)
def drachmref03_Text.f (k : Nat) (a0_0 : Int) (a0_1 : Int) (a0_2 : Int) (a0_3 : Int) (a0_4 : Int) (a0_5 : Int) (a0_6 : Int) : Option (ByteArray) := (drachmref03_Right.f a0_0 a0_1 a0_2 a0_3 a0_4 a0_5 a0_6).bind fun t110 => (if t110 = true then (drachmref03_Text.l0 k (⟨#[]⟩ : ByteArray) 0 a0_0 a0_1 a0_2 a0_3 a0_4 a0_5 a0_6) else (some (⟨#[]⟩ : ByteArray)))
theorem drachmref03_Text.mono_l : ∀ k, (∀ y0 y1 y2 y3 y4 y5 y6 y7 y8, LeO (drachmref03_Text.l0 k y0 y1 y2 y3 y4 y5 y6 y7 y8) (drachmref03_Text.l0 (k + 1) y0 y1 y2 y3 y4 y5 y6 y7 y8))
 | 0 => fun _ _ _ _ _ _ _ _ _ r h => by simp [drachmref03_Text.l0] at h
 | k + 1 => by
  have ih0 := drachmref03_Text.mono_l k
  ·intro y0 y1 y2 y3 y4 y5 y6 y7 y8
   unfold drachmref03_Text.l0
   repeat' first
   | (with_reducible exact ih0 _ _ _ _ _ _ _ _ _)
   | (with_reducible exact drachmref03_digits.mono _ _)
   | (with_reducible exact LeO.refl _)
   | (with_reducible exact LeO.none _)
   | (with_reducible refine LeO.ite ?_ ?_)
   | (with_reducible refine LeO.bind ?_ (fun _ => ?_))
   | exact ih0 _ _ _ _ _ _ _ _ _
   | exact drachmref03_digits.mono _ _
   | exact LeO.none _
   | refine LeO.ite ?_ ?_
   | refine LeO.bind ?_ (fun _ => ?_)
theorem drachmref03_Text.mono : ∀ a0 a1 a2 a3 a4 a5 a6 k, LeO (drachmref03_Text.f k a0 a1 a2 a3 a4 a5 a6) (drachmref03_Text.f (k + 1) a0 a1 a2 a3 a4 a5 a6) := by
 intro a0 a1 a2 a3 a4 a5 a6 k
 have ih0 := drachmref03_Text.mono_l k
 unfold drachmref03_Text.f
 repeat' first
   | (with_reducible exact ih0 _ _ _ _ _ _ _ _ _)
   | (with_reducible exact drachmref03_digits.mono _ _)
   | (with_reducible exact LeO.refl _)
   | (with_reducible exact LeO.none _)
   | (with_reducible refine LeO.ite ?_ ?_)
   | (with_reducible refine LeO.bind ?_ (fun _ => ?_))
   | exact ih0 _ _ _ _ _ _ _ _ _
   | exact drachmref03_digits.mono _ _
   | exact LeO.none _
   | refine LeO.ite ?_ ?_
   | refine LeO.bind ?_ (fun _ => ?_)
def drachmref03_Text.T9 : Bool × List (List Nat × List Nat) := (true, [([], []), ([], []), ([], []), ([2], [2]), ([1, 3], [1, 3]), ([0, 4], [0, 4]), ([], []), ([6], [6]), ([7], [7]), ([8], [8]), ([5, 9], [5, 9]), ([10, 9, 0, 1, 2, 3, 4, 5, 6, 7, 8, 9, 10], [0, 10])])
def drachmref03_Text.B9 : List Nat := [0, 0, 0, 4, 14, 31, 0, 64, 192, 448, 1023, 2047]
theorem drachmref03_Text.tab9 : rtab .any (opsOf Tryd.f31 9) = drachmref03_Text.T9 := by kernel_rfl
theorem drachmref03_Text.bits9 : waitsOk drachmref03_Text.T9.2 drachmref03_Text.B9 = true := by kernel_rfl
set_option maxHeartbeats 8000000 in
set_option maxRecDepth 100000 in
theorem drachmref03_Text.calls (k : Nat) (a0_0 : Int) (a0_1 : Int) (a0_2 : Int) (a0_3 : Int) (a0_4 : Int) (a0_5 : Int) (a0_6 : Int) (r : ByteArray) (w : World) (h : drachmref03_Text.f k a0_0 a0_1 a0_2 a0_3 a0_4 a0_5 a0_6 = some r) :
  Calls Tryd.prog 31 #[.agg #[.int .i64 a0_0, .int .i64 a0_1, .int .i64 a0_2, .int .i64 a0_3, .int .i64 a0_4, .int .i64 a0_5, .int .i64 a0_6]] w fun e w' => e = .returned (.string r) ∧ Below w.heap.size w w' := by
 have hu23 := Tryd.underlying23
 have HB := Aside0.mk (Below.refl w.heap.size w)
 have H : ((drachmref03_Right.f a0_0 a0_1 a0_2 a0_3 a0_4 a0_5 a0_6).bind fun t110 => (if t110 = true then (drachmref03_Text.l0 k (⟨#[]⟩ : ByteArray) 0 a0_0 a0_1 a0_2 a0_3 a0_4 a0_5 a0_6) else (some (⟨#[]⟩ : ByteArray)))) = some r := h
 clear h
 replace H := Option.bind_eq_some_iff.mp H
 obtain ⟨t110, A20, H⟩ := H
 replace H : (if t110 = true then (drachmref03_Text.l0 k (⟨#[]⟩ : ByteArray) 0 a0_0 a0_1 a0_2 a0_3 a0_4 a0_5 a0_6) else (some (⟨#[]⟩ : ByteArray))) = some r := H
 have A2 := Aside0.mk A20
 clear A20
 by_cases c3 : t110 = true
 ·subst c3
  have H1 : (drachmref03_Text.l0 k (⟨#[]⟩ : ByteArray) 0 a0_0 a0_1 a0_2 a0_3 a0_4 a0_5 a0_6) = some r := by rw [if_pos rfl] at H; exact H
  clear H
  have H := H1
  clear H1
  have H' := Aside0.mk H
  clear H
  go_enter Tryd.func31, Tryd.ntmps31
  go_wp2_with (first | ((with_reducible refine gate_dst (N := 1) rfl ?_); refine box_event ?hg (N := 1) ?hd (cs := #[.int .i64 a0_0, .int .i64 a0_1, .int .i64 a0_2, .int .i64 a0_3, .int .i64 a0_4, .int .i64 a0_5, .int .i64 a0_6]) (t := 23) ?hr ?_; (case hd => rfl); (case hg => rfl); (case hr => first | (go_simp; done) | (go_simp; rfl)); intro gb109 hg w4 hbox hb; have n0_ := Aside0.mk (below_step (bl HB.out) hb); have n1_ := Aside0.mk (hbox); have n2_ := Aside0.mk ((by rw [hg]; exact (below_size (bl HB.out)) : w.heap.size ≤ gb109)); have n3_ := Aside0.mk ((by rw [hg]; exact (below_size (bl HB.out)) : w.heap.size ≤ gb109)); clear HB; have HB := n0_; have BK109 := n1_; have GW109 := n2_; have GE109 := n3_; clear n0_ n1_ n2_ n3_; clear hb hbox hg; have hcz5_0 : w4.cell? ⟨gb109, 0, none⟩ = some (.int .i64 a0_0) := (blk_cell BK109.out 0).trans rfl; have hcz5_1 : w4.cell? ⟨gb109, 1, none⟩ = some (.int .i64 a0_1) := (blk_cell BK109.out 1).trans rfl; have hcz5_2 : w4.cell? ⟨gb109, 2, none⟩ = some (.int .i64 a0_2) := (blk_cell BK109.out 2).trans rfl; have hcz5_3 : w4.cell? ⟨gb109, 3, none⟩ = some (.int .i64 a0_3) := (blk_cell BK109.out 3).trans rfl; have hcz5_4 : w4.cell? ⟨gb109, 4, none⟩ = some (.int .i64 a0_4) := (blk_cell BK109.out 4).trans rfl; have hcz5_5 : w4.cell? ⟨gb109, 5, none⟩ = some (.int .i64 a0_5) := (blk_cell BK109.out 5).trans rfl; have hcz5_6 : w4.cell? ⟨gb109, 6, none⟩ = some (.int .i64 a0_6) := (blk_cell BK109.out 6).trans rfl; have hfz5_0 := blk_frozen BK109.out 0; have hfz5_1 := blk_frozen BK109.out 1; have hfz5_2 := blk_frozen BK109.out 2; have hfz5_3 := blk_frozen BK109.out 3; have hfz5_4 := blk_frozen BK109.out 4; have hfz5_5 := blk_frozen BK109.out 5; have hfz5_6 := blk_frozen BK109.out 6) | ((with_reducible refine gate_callee (f := 30) rfl ?_); refine goesL_ (some 7) rfl rfl Tryd.func30 (by kernel_rfl) rfl #[.agg #[.int .i64 a0_0, .int .i64 a0_1, .int .i64 a0_2, .int .i64 a0_3, .int .i64 a0_4, .int .i64 a0_5, .int .i64 a0_6]] rfl (by (try simp only [List.map_toArray, List.map_cons, List.map_nil]); first | done | rfl | (simp only [List.length_drop, List.length_take]; rfl)) ?_; (with_reducible refine (drachmref03_Right.calls a0_0 a0_1 a0_2 a0_3 a0_4 a0_5 a0_6 true _ A2.out).mono ?_); rintro e w6 ⟨rfl, hb⟩; refine ⟨_, rfl, ?_⟩; replace BK109 := Aside0.mk (blk_below (kp BK109.out) hb); replace HB := Aside0.mk (below_step (bl HB.out) hb); (try clear hb); (try clear hb2); (try clear hk); (try clear hi)))
  go_loopg [4, 5] k (fun kq v4 v5 w' => ∃ (x4_1 : ByteArray) (x5_1 : Int), v4 = .string x4_1 ∧ v5 = .int .i64 x5_1 ∧ Aside0 (drachmref03_Text.l0 kq x4_1 x5_1 a0_0 a0_1 a0_2 a0_3 a0_4 a0_5 a0_6 = some r) ∧ Aside0 (kq ≤ k) ∧ Aside0 (w'.heap[gb109]? = some (.cells #[.int .i64 a0_0, .int .i64 a0_1, .int .i64 a0_2, .int .i64 a0_3, .int .i64 a0_4, .int .i64 a0_5, .int .i64 a0_6] 23 (0, 0))) ∧ Aside0 (Below w.heap.size w w'))
  case atStart => exact ⟨((⟨#[]⟩ : ByteArray)), (0), (by first | rfl | (simp; done) | (simp [*]; done)), (by first | rfl | (simp; done) | (simp [*]; done)), H', ⟨Nat.le_refl _⟩, ⟨kp BK109.out⟩, ⟨bl HB.out⟩⟩
  case round =>
   clear H'
   try clear p2
   try clear c3
   try clear hcz5_0
   try clear hcz5_1
   try clear hcz5_2
   try clear hcz5_3
   try clear hcz5_4
   try clear hcz5_5
   try clear hcz5_6
   try clear hfz5_0
   try clear hfz5_1
   try clear hfz5_2
   try clear hfz5_3
   try clear hfz5_4
   try clear hfz5_5
   try clear hfz5_6
   obtain ⟨x4_1, x5_1, rfl, rfl, HA, HK1, BK109, HB⟩ := hrel
   cases gk with
   | zero => exact absurd HA.out (by simp [drachmref03_Text.l0])
   | succ k1 =>
    have H := HA.out
    clear HA
    simp only [drachmref03_Text.l0] at H
    by_cases c7 : x5_1 < 7
    ·rw [if_pos c7] at H
     have c7b0 : decide (x5_1 < 7) = true := decide_eq_true c7
     clear c7
     by_cases c8 : 0 ≤ x5_1
     ·rw [if_pos c8] at H
      have c8b0 := eq_true c8
      have c8b1 : decide (0 ≤ x5_1) = true := decide_eq_true c8
      clear c8
      have c9b0 := eq_true (of_decide_eq_true (by first | (with_reducible assumption) | assumption) : x5_1 < 7)
      by_cases c10 : (rd [a0_0, a0_1, a0_2, a0_3, a0_4, a0_5, a0_6] x5_1) = 0
      ·rw [if_pos c10] at H
       have c10b0 : ((rd [a0_0, a0_1, a0_2, a0_3, a0_4, a0_5, a0_6] x5_1) == 0) = true := beq_iff_eq.mpr c10
       have c10b1 : ((rd [a0_0, a0_1, a0_2, a0_3, a0_4, a0_5, a0_6] x5_1) != 0) = false := bne_eq_false_iff_eq.mpr c10
       clear c10
       have H' := Aside0.mk H
       clear H
       have hcz11_0 : wr.cell? ⟨gb109, 0, none⟩ = some (.int .i64 a0_0) := (blk_cell BK109.out 0).trans rfl
       have hcz11_1 : wr.cell? ⟨gb109, 1, none⟩ = some (.int .i64 a0_1) := (blk_cell BK109.out 1).trans rfl
       have hcz11_2 : wr.cell? ⟨gb109, 2, none⟩ = some (.int .i64 a0_2) := (blk_cell BK109.out 2).trans rfl
       have hcz11_3 : wr.cell? ⟨gb109, 3, none⟩ = some (.int .i64 a0_3) := (blk_cell BK109.out 3).trans rfl
       have hcz11_4 : wr.cell? ⟨gb109, 4, none⟩ = some (.int .i64 a0_4) := (blk_cell BK109.out 4).trans rfl
       have hcz11_5 : wr.cell? ⟨gb109, 5, none⟩ = some (.int .i64 a0_5) := (blk_cell BK109.out 5).trans rfl
       have hcz11_6 : wr.cell? ⟨gb109, 6, none⟩ = some (.int .i64 a0_6) := (blk_cell BK109.out 6).trans rfl
       have hfz11_0 := blk_frozen BK109.out 0
       have hfz11_1 := blk_frozen BK109.out 1
       have hfz11_2 := blk_frozen BK109.out 2
       have hfz11_3 := blk_frozen BK109.out 3
       have hfz11_4 := blk_frozen BK109.out 4
       have hfz11_5 := blk_frozen BK109.out 5
       have hfz11_6 := blk_frozen BK109.out 6
       have hax12 := arr_cell (w := wr) (g := gb109) (e := fun n_ => Value.int .i64 n_) 0 1 [a0_0, a0_1, a0_2, a0_3, a0_4, a0_5, a0_6] x5_1 (fun i_ hi_ => by match i_, hi_ with | 0, _ => exact hcz11_0 | 1, _ => exact hcz11_1 | 2, _ => exact hcz11_2 | 3, _ => exact hcz11_3 | 4, _ => exact hcz11_4 | 5, _ => exact hcz11_5 | 6, _ => exact hcz11_6) (by first | omega | exact of_eq_true (by assumption)) (by simp only [List.length_cons, List.length_nil]; first | omega | (have h_ : (x5_1 : Int) < 7 := of_eq_true (by assumption); omega))
       (try simp only [Nat.zero_add, Nat.mul_one] at hax12)
       go_wp2
       go_roundg k1
       case measure => have := HK1.out; omega
       case rel => exact ⟨(x4_1), (wrap64 (x5_1 + 1)), (by first | rfl | (simp; done) | (simp [*]; done)), (by first | rfl | (simp; done) | (simp [*]; done)), H', ⟨by have := HK1.out; omega⟩, ⟨kp BK109.out⟩, ⟨bl HB.out⟩⟩
      ·rw [if_neg c10] at H
       have c10b0 : ((rd [a0_0, a0_1, a0_2, a0_3, a0_4, a0_5, a0_6] x5_1) == 0) = false := beq_eq_false_iff_ne.mpr c10
       have c10b1 : ((rd [a0_0, a0_1, a0_2, a0_3, a0_4, a0_5, a0_6] x5_1) != 0) = true := bne_iff_ne.mpr c10
       have c13b0 := eq_true (of_decide_eq_true (by first | (with_reducible assumption) | assumption) : 0 ≤ x5_1)
       by_cases c14 : x5_1 ≤ (wrap64 (x5_1 + 1))
       ·rw [if_pos c14] at H
        have c14b0 := eq_true c14
        have c14b1 : decide (x5_1 ≤ (wrap64 (x5_1 + 1))) = true := decide_eq_true c14
        by_cases c15 : (wrap64 (x5_1 + 1)) ≤ 7
        ·rw [if_pos c15] at H
         have c15b0 := eq_true c15
         have c15b1 : decide ((wrap64 (x5_1 + 1)) ≤ 7) = true := decide_eq_true c15
         by_cases c16 : x4_1.size + ((⟨#[109, 115, 103, 114, 107, 99, 100]⟩ : ByteArray).extract (x5_1 : Int).toNat ((wrap64 (x5_1 + 1)) : Int).toNat).size ≤ 9223372036854775807
         ·rw [if_pos c16] at H
          have c16b0 := eq_true c16
          have c16b1 : decide (x4_1.size + ((⟨#[109, 115, 103, 114, 107, 99, 100]⟩ : ByteArray).extract (x5_1 : Int).toNat ((wrap64 (x5_1 + 1)) : Int).toNat).size ≤ 9223372036854775807) = true := decide_eq_true c16
          try have c16b2 : (9223372036854775807 < x4_1.size + ((⟨#[109, 115, 103, 114, 107, 99, 100]⟩ : ByteArray).extract (x5_1 : Int).toNat ((wrap64 (x5_1 + 1)) : Int).toNat).size) = False := eq_false (Nat.not_lt.2 c16)
          have c17b0 := eq_true (of_decide_eq_true (by first | (with_reducible assumption) | assumption) : 0 ≤ x5_1)
          have c18b0 := eq_true (of_decide_eq_true (by first | (with_reducible assumption) | assumption) : x5_1 < 7)
          replace H := Option.bind_eq_some_iff.mp H
          obtain ⟨t111, A190, H⟩ := H
          replace H : (if (x4_1 ++ ((⟨#[109, 115, 103, 114, 107, 99, 100]⟩ : ByteArray).extract (x5_1 : Int).toNat ((wrap64 (x5_1 + 1)) : Int).toNat)).size + t111.size ≤ 9223372036854775807 then (drachmref03_Text.l0 k1 ((x4_1 ++ ((⟨#[109, 115, 103, 114, 107, 99, 100]⟩ : ByteArray).extract (x5_1 : Int).toNat ((wrap64 (x5_1 + 1)) : Int).toNat)) ++ t111) (wrap64 (x5_1 + 1)) a0_0 a0_1 a0_2 a0_3 a0_4 a0_5 a0_6) else (none)) = some r := H
          have A19 := Aside0.mk A190
          clear A190
          by_cases c20 : (x4_1 ++ ((⟨#[109, 115, 103, 114, 107, 99, 100]⟩ : ByteArray).extract (x5_1 : Int).toNat ((wrap64 (x5_1 + 1)) : Int).toNat)).size + t111.size ≤ 9223372036854775807
          ·rw [if_pos c20] at H
           have c20b0 := eq_true c20
           have c20b1 : decide ((x4_1 ++ ((⟨#[109, 115, 103, 114, 107, 99, 100]⟩ : ByteArray).extract (x5_1 : Int).toNat ((wrap64 (x5_1 + 1)) : Int).toNat)).size + t111.size ≤ 9223372036854775807) = true := decide_eq_true c20
           try have c20b2 : (9223372036854775807 < (x4_1 ++ ((⟨#[109, 115, 103, 114, 107, 99, 100]⟩ : ByteArray).extract (x5_1 : Int).toNat ((wrap64 (x5_1 + 1)) : Int).toNat)).size + t111.size) = False := eq_false (Nat.not_lt.2 c20)
           (try have c20b3 : (9223372036854775807 < x4_1.size + (((⟨#[109, 115, 103, 114, 107, 99, 100]⟩ : ByteArray).extract (x5_1 : Int).toNat ((wrap64 (x5_1 + 1)) : Int).toNat).size) + t111.size) = False := eq_false (by have h_ := c20; simp only [ByteArray.size_append] at h_; have e0_ : (⟨#[109, 115, 103, 114, 107, 99, 100]⟩ : ByteArray).size = 7 := rfl; omega))
           have H' := Aside0.mk H
           clear H
           have hcz21_0 : wr.cell? ⟨gb109, 0, none⟩ = some (.int .i64 a0_0) := (blk_cell BK109.out 0).trans rfl
           have hcz21_1 : wr.cell? ⟨gb109, 1, none⟩ = some (.int .i64 a0_1) := (blk_cell BK109.out 1).trans rfl
           have hcz21_2 : wr.cell? ⟨gb109, 2, none⟩ = some (.int .i64 a0_2) := (blk_cell BK109.out 2).trans rfl
           have hcz21_3 : wr.cell? ⟨gb109, 3, none⟩ = some (.int .i64 a0_3) := (blk_cell BK109.out 3).trans rfl
           have hcz21_4 : wr.cell? ⟨gb109, 4, none⟩ = some (.int .i64 a0_4) := (blk_cell BK109.out 4).trans rfl
           have hcz21_5 : wr.cell? ⟨gb109, 5, none⟩ = some (.int .i64 a0_5) := (blk_cell BK109.out 5).trans rfl
           have hcz21_6 : wr.cell? ⟨gb109, 6, none⟩ = some (.int .i64 a0_6) := (blk_cell BK109.out 6).trans rfl
           have hfz21_0 := blk_frozen BK109.out 0
           have hfz21_1 := blk_frozen BK109.out 1
           have hfz21_2 := blk_frozen BK109.out 2
           have hfz21_3 := blk_frozen BK109.out 3
           have hfz21_4 := blk_frozen BK109.out 4
           have hfz21_5 := blk_frozen BK109.out 5
           have hfz21_6 := blk_frozen BK109.out 6
           have hax22 := arr_cell (w := wr) (g := gb109) (e := fun n_ => Value.int .i64 n_) 0 1 [a0_0, a0_1, a0_2, a0_3, a0_4, a0_5, a0_6] x5_1 (fun i_ hi_ => by match i_, hi_ with | 0, _ => exact hcz21_0 | 1, _ => exact hcz21_1 | 2, _ => exact hcz21_2 | 3, _ => exact hcz21_3 | 4, _ => exact hcz21_4 | 5, _ => exact hcz21_5 | 6, _ => exact hcz21_6) (by first | omega | exact of_eq_true (by assumption)) (by simp only [List.length_cons, List.length_nil]; first | omega | (have h_ : (x5_1 : Int) < 7 := of_eq_true (by assumption); omega))
           (try simp only [Nat.zero_add, Nat.mul_one] at hax22)
           try go_wp2
           (try (rw [drewN_self wr]; generalize hq_ : World.drewN wr _ = wr; replace BK109 := Aside0.mk (kq hq_ BK109.out); replace HB := Aside0.mk (bq hq_ HB.out); clear hq_))
           replace BK109 := Aside0.mk (blk_drew BK109.out)
           replace HB := Aside0.mk (below_drew1 HB.out)
           refine start_ (n := 12) (S := fun w' => w'.cell? ⟨gb109, 0, none⟩ = some (.int .i64 a0_0) ∧ w'.cell? ⟨gb109, 1, none⟩ = some (.int .i64 a0_1) ∧ w'.cell? ⟨gb109, 2, none⟩ = some (.int .i64 a0_2) ∧ w'.cell? ⟨gb109, 3, none⟩ = some (.int .i64 a0_3) ∧ w'.cell? ⟨gb109, 4, none⟩ = some (.int .i64 a0_4) ∧ w'.cell? ⟨gb109, 5, none⟩ = some (.int .i64 a0_5) ∧ w'.cell? ⟨gb109, 6, none⟩ = some (.int .i64 a0_6) ∧ w'.cell? ⟨gb109, x5_1.toNat, none⟩ = some (.int .i64 (rd [a0_0, a0_1, a0_2, a0_3, a0_4, a0_5, a0_6] x5_1))) (ds := []) #[false, false, false, false, false, false, false, false, false, false, false, false] (by kernel_rfl) rfl rfl ⟨(blk_cell BK109.out 0).trans rfl, (blk_cell BK109.out 1).trans rfl, (blk_cell BK109.out 2).trans rfl, (blk_cell BK109.out 3).trans rfl, (blk_cell BK109.out 4).trans rfl, (blk_cell BK109.out 5).trans rfl, (blk_cell BK109.out 6).trans rfl, (arr_cell1 (e := fun n_ => Value.int .i64 n_) [a0_0, a0_1, a0_2, a0_3, a0_4, a0_5, a0_6] x5_1 (fun i_ hi_ => by match i_, hi_ with | 0, _ => exact (blk_cell BK109.out 0).trans rfl | 1, _ => exact (blk_cell BK109.out 1).trans rfl | 2, _ => exact (blk_cell BK109.out 2).trans rfl | 3, _ => exact (blk_cell BK109.out 3).trans rfl | 4, _ => exact (blk_cell BK109.out 4).trans rfl | 5, _ => exact (blk_cell BK109.out 5).trans rfl | 6, _ => exact (blk_cell BK109.out 6).trans rfl) (by first | omega | exact of_eq_true (by assumption)) (by simp only [List.length_cons, List.length_nil]; first | omega | (have h_ : (x5_1 : Int) < 7 := of_eq_true (by assumption); omega)))⟩ (fun hHeld => ?_); refine with_tabW drachmref03_Text.tab9 drachmref03_Text.bits9 (fun HT_ HW_ => ?_)
           generalize wr.drew = w23 at BK109 HB hHeld ⊢
           refine pure_ (i := 0) (N := some 18) (v := ?_) (a' := ?_) #[true, false, false, false, false, false, false, false, false, false, false, false] rfl rfl (any_of HT_.out (by kernel_rfl)) (fun _ _ _ h => h) (Or.inl ⟨by rfl, ?_⟩) ?_ ?_
           rotate_left
           ·intro w'
            go_simp
            first | with_reducible rfl | (rw [if_neg (by simp only [lit_size, List.length_cons, List.length_nil, ByteArray.size_extract, ByteArray.size_append, eq_iff_iff, iff_true, iff_false] at *; omega)])
           rotate_left
           ·simp only [Act.put, List.setIfInBounds_toArray, List.set_cons_zero, List.set_cons_succ, i64_w, i32_w]
            rfl
           refine pure_ (i := 1) (N := some 19) (v := ?_) (a' := ?_) #[true, true, false, false, false, false, false, false, false, false, false, false] rfl rfl (any_of HT_.out (by kernel_rfl)) (fun _ _ _ h => h) (Or.inl ⟨by rfl, ?_⟩) ?_ ?_
           rotate_left
           ·intro w'
            go_simp
            first | with_reducible rfl | (rw [if_neg (by simp only [lit_size, List.length_cons, List.length_nil, ByteArray.size_extract, ByteArray.size_append, eq_iff_iff, iff_true, iff_false] at *; omega)])
           rotate_left
           ·simp only [Act.put, List.setIfInBounds_toArray, List.set_cons_zero, List.set_cons_succ, i64_w, i32_w]
            rfl
           refine pure_ (i := 2) (N := some 20) (v := ?_) (a' := ?_) #[true, true, true, false, false, false, false, false, false, false, false, false] rfl rfl (any_of HT_.out (by kernel_rfl)) (fun _ _ _ h => h) (Or.inl ⟨by rfl, ?_⟩) ?_ ?_
           rotate_left
           ·intro w'
            go_simp
            first | with_reducible rfl | (rw [if_neg (by simp only [lit_size, List.length_cons, List.length_nil, ByteArray.size_extract, ByteArray.size_append, eq_iff_iff, iff_true, iff_false] at *; omega)])
           rotate_left
           ·simp only [Act.put, List.setIfInBounds_toArray, List.set_cons_zero, List.set_cons_succ, i64_w, i32_w]
            rfl
           refine pure_ (i := 3) (N := some 21) (v := ?_) (a' := ?_) #[true, true, true, true, false, false, false, false, false, false, false, false] rfl rfl (any_of HT_.out (by kernel_rfl)) (fun _ _ _ h => h) (Or.inl ⟨by rfl, ?_⟩) ?_ ?_
           rotate_left
           ·intro w'
            go_simp
            first | with_reducible rfl | (rw [if_neg (by simp only [lit_size, List.length_cons, List.length_nil, ByteArray.size_extract, ByteArray.size_append, eq_iff_iff, iff_true, iff_false] at *; omega)])
           rotate_left
           ·simp only [Act.put, List.setIfInBounds_toArray, List.set_cons_zero, List.set_cons_succ, i64_w, i32_w]
            rfl
           refine pure_ (i := 4) (N := some 22) (v := ?_) (a' := ?_) #[true, true, true, true, true, false, false, false, false, false, false, false] rfl rfl (any_of HT_.out (by kernel_rfl)) (fun _ _ _ h => h) (Or.inl ⟨by rfl, ?_⟩) ?_ ?_
           rotate_left
           ·intro w'
            go_simp
            first | with_reducible rfl | (rw [if_neg (by simp only [lit_size, List.length_cons, List.length_nil, ByteArray.size_extract, ByteArray.size_append, eq_iff_iff, iff_true, iff_false] at *; omega)])
           rotate_left
           ·simp only [Act.put, List.setIfInBounds_toArray, List.set_cons_zero, List.set_cons_succ, i64_w, i32_w]
            rfl
           refine pure_ (i := 5) (N := some 23) (v := ?_) (a' := ?_) #[true, true, true, true, true, true, false, false, false, false, false, false] rfl rfl (any_of HT_.out (by kernel_rfl)) (fun _ _ _ h => h) (Or.inl ⟨by rfl, ?_⟩) ?_ ?_
           rotate_left
           ·intro w'
            go_simp
            first | with_reducible rfl | (rw [if_neg (by simp only [lit_size, List.length_cons, List.length_nil, ByteArray.size_extract, ByteArray.size_append, eq_iff_iff, iff_true, iff_false] at *; omega)])
           rotate_left
           ·simp only [Act.put, List.setIfInBounds_toArray, List.set_cons_zero, List.set_cons_succ, i64_w, i32_w]
            rfl
           refine pure_ (i := 6) (N := some 24) (v := ?_) (a' := ?_) #[true, true, true, true, true, true, true, false, false, false, false, false] rfl rfl (any_of HT_.out (by kernel_rfl)) (fun _ _ _ h => h) (Or.inl ⟨by rfl, ?_⟩) ?_ ?_
           rotate_left
           ·intro w'
            go_simp
            first | with_reducible rfl | (rw [if_neg (by simp only [lit_size, List.length_cons, List.length_nil, ByteArray.size_extract, ByteArray.size_append, eq_iff_iff, iff_true, iff_false] at *; omega)])
           rotate_left
           ·simp only [Act.put, List.setIfInBounds_toArray, List.set_cons_zero, List.set_cons_succ, i64_w, i32_w]
            rfl
           refine pure_ (i := 7) (N := some 25) (v := ?_) (a' := ?_) #[true, true, true, true, true, true, true, true, false, false, false, false] rfl rfl (any_of HT_.out (by kernel_rfl)) (fun _ _ _ h => h) (Or.inl ⟨by rfl, ?_⟩) ?_ ?_
           rotate_left
           ·intro w'
            go_simp
            first | with_reducible rfl | (rw [if_neg (by simp only [lit_size, List.length_cons, List.length_nil, ByteArray.size_extract, ByteArray.size_append, eq_iff_iff, iff_true, iff_false] at *; omega)])
           rotate_left
           ·simp only [Act.put, List.setIfInBounds_toArray, List.set_cons_zero, List.set_cons_succ, i64_w, i32_w]
            rfl
           refine take_ (i := 8) (N := some 26) (v := ?_) (a' := ?_) #[true, true, true, true, true, true, true, true, true, false, false, false] rfl rfl (take_ofW HT_.out HW_.out (by kernel_rfl)) (fun _ _ _ h => h) (Or.inl ⟨by rfl, ?_⟩) hHeld ?_ ?_
           rotate_left
           ·rintro w' ⟨s0, s1, s2, s3, s4, s5, s6, s7⟩
            go_simp
            first | with_reducible rfl | (rw [if_neg (by simp only [lit_size, List.length_cons, List.length_nil, ByteArray.size_extract, ByteArray.size_append, eq_iff_iff, iff_true, iff_false] at *; omega)])
           rotate_left
           ·simp only [Act.put, List.setIfInBounds_toArray, List.set_cons_zero, List.set_cons_succ, i64_w, i32_w]
            rfl
           refine one_ (i := 9) (N := some 27) #[true, true, true, true, true, true, true, true, true, true, false, false] rfl rfl (one_of HT_.out (by kernel_rfl)) (by decide) (fun K hK => ?_)
           refine goes_ Tryd.func40 (by kernel_rfl) rfl #[.int .i64 (rd [a0_0, a0_1, a0_2, a0_3, a0_4, a0_5, a0_6] x5_1)] (by rfl) rfl rfl (by (try simp only [List.map_toArray, List.map_cons, List.map_nil]); first | done | rfl | (simp only [List.length_drop, List.length_take]; rfl)) ?_
           with_reducible refine (drachmref03_digits.calls k1 (rd [a0_0, a0_1, a0_2, a0_3, a0_4, a0_5, a0_6] x5_1) t111 _ A19.out).mono ?_
           rintro e w24 ⟨rfl, hb⟩
           refine ⟨_, rfl, ?_⟩
           replace BK109 := Aside0.mk (blk_below (kp BK109.out) hb)
           replace HB := Aside0.mk (below_step (bl HB.out) hb)
           (try clear hb)
           (try clear hb2)
           (try clear hk)
           (try clear hi)
           refine hK.out _ _ ⟨(blk_cell BK109.out 0).trans rfl, (blk_cell BK109.out 1).trans rfl, (blk_cell BK109.out 2).trans rfl, (blk_cell BK109.out 3).trans rfl, (blk_cell BK109.out 4).trans rfl, (blk_cell BK109.out 5).trans rfl, (blk_cell BK109.out 6).trans rfl, (arr_cell1 (e := fun n_ => Value.int .i64 n_) [a0_0, a0_1, a0_2, a0_3, a0_4, a0_5, a0_6] x5_1 (fun i_ hi_ => by match i_, hi_ with | 0, _ => exact (blk_cell BK109.out 0).trans rfl | 1, _ => exact (blk_cell BK109.out 1).trans rfl | 2, _ => exact (blk_cell BK109.out 2).trans rfl | 3, _ => exact (blk_cell BK109.out 3).trans rfl | 4, _ => exact (blk_cell BK109.out 4).trans rfl | 5, _ => exact (blk_cell BK109.out 5).trans rfl | 6, _ => exact (blk_cell BK109.out 6).trans rfl) (by first | omega | exact of_eq_true (by assumption)) (by simp only [List.length_cons, List.length_nil]; first | omega | (have h_ : (x5_1 : Int) < 7 := of_eq_true (by assumption); omega)))⟩ (fun hHeld => ?_)
           clear hK K
           refine norm_ (a' := ?_) ?_ ?_
           rotate_left
           ·show Act.put _ (some 27) _ = _
            simp only [Act.put, List.setIfInBounds_toArray, List.set_cons_zero, List.set_cons_succ, i64_w, i32_w]
            rfl
           refine pure_ (i := 10) (N := some 28) (v := ?_) (a' := ?_) #[true, true, true, true, true, true, true, true, true, true, true, false] rfl rfl (any_of HT_.out (by kernel_rfl)) (fun _ _ _ h => h) (Or.inl ⟨by rfl, ?_⟩) ?_ ?_
           rotate_left
           ·intro w'
            go_simp
            first | with_reducible rfl | (rw [if_neg (by simp only [lit_size, List.length_cons, List.length_nil, ByteArray.size_extract, ByteArray.size_append, eq_iff_iff, iff_true, iff_false] at *; omega)])
           rotate_left
           ·simp only [Act.put, List.setIfInBounds_toArray, List.set_cons_zero, List.set_cons_succ, i64_w, i32_w]
            rfl
           refine pure_ (i := 11) (N := some 4) (v := ?_) (a' := ?_) #[true, true, true, true, true, true, true, true, true, true, true, true] rfl rfl (any_of HT_.out (by kernel_rfl)) (fun _ _ _ h => h) (Or.inl ⟨by rfl, ?_⟩) ?_ ?_
           rotate_left
           ·intro w'
            go_simp
            first | with_reducible rfl | (rw [if_neg (by simp only [lit_size, List.length_cons, List.length_nil, ByteArray.size_extract, ByteArray.size_append, eq_iff_iff, iff_true, iff_false] at *; omega)])
           rotate_left
           ·simp only [Act.put, List.setIfInBounds_toArray, List.set_cons_zero, List.set_cons_succ, i64_w, i32_w]
            rfl
           refine done_ (done_of HT_.out (by kernel_rfl)) ?_
           try go_wp2
           go_roundg k1
           case measure => have := HK1.out; omega
           case rel => exact ⟨((x4_1 ++ ((⟨#[109, 115, 103, 114, 107, 99, 100]⟩ : ByteArray).extract (x5_1 : Int).toNat ((wrap64 (x5_1 + 1)) : Int).toNat)) ++ t111), (wrap64 (x5_1 + 1)), (by first | rfl | (simp; done) | (simp [*]; done)), (by first | rfl | (simp; done) | (simp [*]; done)), H', ⟨by have := HK1.out; omega⟩, ⟨kp BK109.out⟩, ⟨bl HB.out⟩⟩
          ·rw [if_neg c20] at H
           exact absurd H (by simp)
         ·rw [if_neg c16] at H
          exact absurd H (by simp)
        ·rw [if_neg c15] at H
         exact absurd H (by simp)
       ·rw [if_neg c14] at H
        exact absurd H (by simp)
     ·rw [if_neg c8] at H
      exact absurd H (by simp)
    ·rw [if_neg c7] at H
     have c7b0 : decide (x5_1 < 7) = false := decide_eq_false c7
     clear c7
     obtain rfl := Option.some.inj H
     go_wp2
     go_ret
     exact ⟨by first | rfl | (simp [errW_none, errW_some] <;> rfl) | (simp [*, errW_none, errW_some] <;> rfl), bl HB.out⟩
 ·replace c3 := Bool.eq_false_iff.mpr c3
  subst c3
  have H1 : (some (⟨#[]⟩ : ByteArray)) = some r := by rw [if_neg (show ¬ (false = true) by decide)] at H; exact H
  clear H
  have H := H1
  clear H1
  obtain rfl := Option.some.inj H
  go_enter Tryd.func31, Tryd.ntmps31
  go_wp2_with (first | ((with_reducible refine gate_dst (N := 1) rfl ?_); refine box_event ?hg (N := 1) ?hd (cs := #[.int .i64 a0_0, .int .i64 a0_1, .int .i64 a0_2, .int .i64 a0_3, .int .i64 a0_4, .int .i64 a0_5, .int .i64 a0_6]) (t := 23) ?hr ?_; (case hd => rfl); (case hg => rfl); (case hr => first | (go_simp; done) | (go_simp; rfl)); intro gb109 hg w25 hbox hb; have n0_ := Aside0.mk (below_step (bl HB.out) hb); have n1_ := Aside0.mk (hbox); have n2_ := Aside0.mk ((by rw [hg]; exact (below_size (bl HB.out)) : w.heap.size ≤ gb109)); have n3_ := Aside0.mk ((by rw [hg]; exact (below_size (bl HB.out)) : w.heap.size ≤ gb109)); clear HB; have HB := n0_; have BK109 := n1_; have GW109 := n2_; have GE109 := n3_; clear n0_ n1_ n2_ n3_; clear hb hbox hg; have hcz26_0 : w25.cell? ⟨gb109, 0, none⟩ = some (.int .i64 a0_0) := (blk_cell BK109.out 0).trans rfl; have hcz26_1 : w25.cell? ⟨gb109, 1, none⟩ = some (.int .i64 a0_1) := (blk_cell BK109.out 1).trans rfl; have hcz26_2 : w25.cell? ⟨gb109, 2, none⟩ = some (.int .i64 a0_2) := (blk_cell BK109.out 2).trans rfl; have hcz26_3 : w25.cell? ⟨gb109, 3, none⟩ = some (.int .i64 a0_3) := (blk_cell BK109.out 3).trans rfl; have hcz26_4 : w25.cell? ⟨gb109, 4, none⟩ = some (.int .i64 a0_4) := (blk_cell BK109.out 4).trans rfl; have hcz26_5 : w25.cell? ⟨gb109, 5, none⟩ = some (.int .i64 a0_5) := (blk_cell BK109.out 5).trans rfl; have hcz26_6 : w25.cell? ⟨gb109, 6, none⟩ = some (.int .i64 a0_6) := (blk_cell BK109.out 6).trans rfl; have hfz26_0 := blk_frozen BK109.out 0; have hfz26_1 := blk_frozen BK109.out 1; have hfz26_2 := blk_frozen BK109.out 2; have hfz26_3 := blk_frozen BK109.out 3; have hfz26_4 := blk_frozen BK109.out 4; have hfz26_5 := blk_frozen BK109.out 5; have hfz26_6 := blk_frozen BK109.out 6) | ((with_reducible refine gate_callee (f := 30) rfl ?_); refine goesL_ (some 7) rfl rfl Tryd.func30 (by kernel_rfl) rfl #[.agg #[.int .i64 a0_0, .int .i64 a0_1, .int .i64 a0_2, .int .i64 a0_3, .int .i64 a0_4, .int .i64 a0_5, .int .i64 a0_6]] rfl (by (try simp only [List.map_toArray, List.map_cons, List.map_nil]); first | done | rfl | (simp only [List.length_drop, List.length_take]; rfl)) ?_; (with_reducible refine (drachmref03_Right.calls a0_0 a0_1 a0_2 a0_3 a0_4 a0_5 a0_6 false _ A2.out).mono ?_); rintro e w27 ⟨rfl, hb⟩; refine ⟨_, rfl, ?_⟩; replace BK109 := Aside0.mk (blk_below (kp BK109.out) hb); replace HB := Aside0.mk (below_step (bl HB.out) hb); (try clear hb); (try clear hb2); (try clear hk); (try clear hi)))
  go_ret
  exact ⟨by first | rfl | (simp [errW_none, errW_some] <;> rfl) | (simp [*, errW_none, errW_some] <;> rfl), bl HB.out⟩

end Go.Proofs.YtclpbnfcajbmkaaDoor.PB
