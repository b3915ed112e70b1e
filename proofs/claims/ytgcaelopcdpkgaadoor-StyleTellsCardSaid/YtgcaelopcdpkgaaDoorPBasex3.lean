/- Printed by a program of this session (wip/tools/prt.py) out of the translation: plain functions, and that the calls come to just them. No conditions beyond those that stand in each theorem. -/
import Derived.Test.YtgcaelopcdpkgaaDoorPBasex0
import Derived.Test.YtgcaelopcdpkgaaDoorPBasex1
namespace Go.Proofs.YtgcaelopcdpkgaaDoor.PBase
open Go.RowKit Go.Proofs.YtgcaelopcdpkgaaDoorW.PrintWords Go.Proofs.YtgcaelopcdpkgaaDoorW.PrintLast Go.Proofs.YtgcaelopcdpkgaaDoorW.PrintMore
attribute [local go_sem] max2_int min2_int max_two min_two max_three min_three max_four min_four   -- for this text's walks alone
set_option linter.unusedVariables false
set_option linter.unusedSimpArgs false

/-! ### drachmref07_Raise: function 20 -/
def drachmref07_Raise.l0 : Nat → ByteArray → Bool → ByteArray → Int → Option (ByteArray)
  | 0, _, _, _, _ => none
  | k + 1, x1, x5, x6, x7 => if x7 < (x1.size : Int) then (if 0 ≤ x7 then (if x5 = true then (if (bt x1 x7) ≥ 97 then (if (bt x1 x7) ≤ 122 then ((some (([((bt x1 x7) - 32) % 256] : List Int) : List Int)).bind fun y115 => (if x6.size + (strOfNums y115).size ≤ 9223372036854775807 then (drachmref07_Raise.l0 k x1 x5 (x6 ++ (strOfNums y115)) (wrap64 (x7 + 1))) else (none))) else ((some (([bt x1 x7] : List Int) : List Int)).bind fun y118 => (if x6.size + (strOfNums y118).size ≤ 9223372036854775807 then (drachmref07_Raise.l0 k x1 x5 (x6 ++ (strOfNums y118)) (wrap64 (x7 + 1))) else (none)))) else ((some (([bt x1 x7] : List Int) : List Int)).bind fun y121 => (if x6.size + (strOfNums y121).size ≤ 9223372036854775807 then (drachmref07_Raise.l0 k x1 x5 (x6 ++ (strOfNums y121)) (wrap64 (x7 + 1))) else (none)))) else ((some (([bt x1 x7] : List Int) : List Int)).bind fun y124 => (if x6.size + (strOfNums y124).size ≤ 9223372036854775807 then (drachmref07_Raise.l0 k x1 x5 (x6 ++ (strOfNums y124)) (wrap64 (x7 + 1))) else (none)))) else (none)) else (some x6)
def drachmref07_Raise.f (k : Nat) (a0 : Int) (a1 : ByteArray) : Option (ByteArray) := (drachmref07_Of.f a0).bind fun bt109 => (drachmref07_Raise.l0 k a1 bt109.1 (⟨#[]⟩ : ByteArray) 0)
theorem drachmref07_Raise.mono_l : ∀ k, (∀ y0 y1 y2 y3, LeO (drachmref07_Raise.l0 k y0 y1 y2 y3) (drachmref07_Raise.l0 (k + 1) y0 y1 y2 y3))
  | 0 => fun _ _ _ _ r h => by simp [drachmref07_Raise.l0] at h
  | k + 1 => by
    have ih0 := drachmref07_Raise.mono_l k
    · intro y0 y1 y2 y3
      unfold drachmref07_Raise.l0
      repeat' first
      | (with_reducible exact ih0 _ _ _ _)
      | (with_reducible exact LeO.refl _)
      | (with_reducible exact LeO.none _)
      | (with_reducible refine LeO.ite ?_ ?_)
      | (with_reducible refine LeO.bind ?_ (fun _ => ?_))
      | exact ih0 _ _ _ _
      | exact LeO.none _
      | refine LeO.ite ?_ ?_
      | refine LeO.bind ?_ (fun _ => ?_)
theorem drachmref07_Raise.mono : ∀ a0 a1 k, LeO (drachmref07_Raise.f k a0 a1) (drachmref07_Raise.f (k + 1) a0 a1) := by
  intro a0 a1 k
  have ih0 := drachmref07_Raise.mono_l k
  unfold drachmref07_Raise.f
  repeat' first
      | (with_reducible exact ih0 _ _ _ _)
      | (with_reducible exact LeO.refl _)
      | (with_reducible exact LeO.none _)
      | (with_reducible refine LeO.ite ?_ ?_)
      | (with_reducible refine LeO.bind ?_ (fun _ => ?_))
      | exact ih0 _ _ _ _
      | exact LeO.none _
      | refine LeO.ite ?_ ?_
      | refine LeO.bind ?_ (fun _ => ?_)
set_option maxHeartbeats 8000000 in
set_option maxRecDepth 100000 in
theorem drachmref07_Raise.calls (k : Nat) (a0 : Int) (a1 : ByteArray) (r : ByteArray) (w : World) (h : drachmref07_Raise.f k a0 a1 = some r) :
    Calls Tryd.prog 20 #[.int .i64 a0, .string a1] w fun e w' => e = .returned (.string r) ∧ Below w.heap.size w w' := by
  have hfd25_0 : ∀ (y0_ y1_ y2_ y3_ y4_ y5_ : Value) (W : World), (Instr.field 25 (.agg #[y0_, y1_, y2_, y3_, y4_, y5_]) 0).run Tryd.prog W = .ok (y0_) W := by intro y0_ y1_ y2_ y3_ y4_ y5_ W; first | kernel_rfl | rfl
  have HB := Aside0.mk (Below.refl w.heap.size w)
  have H : ((drachmref07_Of.f a0).bind fun bt109 => (drachmref07_Raise.l0 k a1 bt109.1 (⟨#[]⟩ : ByteArray) 0)) = some r := h
  clear h
  replace H := Option.bind_eq_some_iff.mp H
  obtain ⟨⟨t109, t110, t111, t112, t113, t114⟩, A30, H⟩ := H
  replace H : (drachmref07_Raise.l0 k a1 t109 (⟨#[]⟩ : ByteArray) 0) = some r := H
  have A3 := Aside0.mk A30
  clear A30
  have H' := Aside0.mk H
  clear H
  go_enter Tryd.func20, Tryd.ntmps20
  go_wp2_with (first | ((with_reducible refine gate_callee (f := 18) rfl ?_); refine goesL_ (some 10) rfl rfl Tryd.func18 (by kernel_rfl) rfl #[.int .i64 a0] rfl (by (try simp only [List.map_toArray, List.map_cons, List.map_nil]); first | done | rfl | (simp only [List.length_drop, List.length_take]; rfl)) ?_; (with_reducible refine (drachmref07_Of.calls a0 t109 t110 t111 t112 t113 t114 _ A3.out).mono ?_); rintro e w4 ⟨rfl, hb⟩; refine ⟨_, rfl, ?_⟩; have n0_ := Aside0.mk (below_step (by repeat (first | (with_reducible first | exact HB.out | apply below_alloc | apply pw_below_drewN | apply below_drew1) | exact HB.out)) hb); clear HB; have HB := n0_; clear n0_; (try clear hb); (try clear hb2); (try clear hk); (try clear hi)))
  go_loopg [6, 7] k (fun kq v6 v7 w' => ∃ (x6_1 : ByteArray) (x7_1 : Int), v6 = .string x6_1 ∧ v7 = .int .i64 x7_1 ∧ Aside0 (drachmref07_Raise.l0 kq a1 t109 x6_1 x7_1 = some r) ∧ Aside0 (kq ≤ k) ∧ Aside0 (Below w.heap.size w w'))
  case atStart => exact ⟨((⟨#[]⟩ : ByteArray)), (0), (by first | rfl | (simp; done) | (simp [*]; done)), (by first | rfl | (simp; done) | (simp [*]; done)), H', ⟨Nat.le_refl _⟩, ⟨by repeat (first | (with_reducible first | exact HB.out | apply below_alloc | apply pw_below_drewN | apply below_drew1) | exact HB.out)⟩⟩
  case round =>
    clear H'
    try clear c1
    try clear c2
    try clear p2
    obtain ⟨x6_1, x7_1, rfl, rfl, HA, HK1, HB⟩ := hrel
    cases gk with
    | zero => exact absurd HA.out (by simp [drachmref07_Raise.l0])
    | succ k1 =>
      have H := HA.out
      clear HA
      simp only [drachmref07_Raise.l0] at H
      by_cases c5 : x7_1 < (a1.size : Int)
      · rw [if_pos c5] at H
        have c5b0 : decide (x7_1 < (a1.size : Int)) = true := decide_eq_true c5
        clear c5
        by_cases c6 : 0 ≤ x7_1
        · rw [if_pos c6] at H
          have c6b0 : decide (0 ≤ x7_1) = true := decide_eq_true c6
          clear c6
          by_cases c8 : t109 = true
          · subst c8
            have H1 : (if (bt a1 x7_1) ≥ 97 then (if (bt a1 x7_1) ≤ 122 then ((some (([((bt a1 x7_1) - 32) % 256] : List Int) : List Int)).bind fun y115 => (if x6_1.size + (strOfNums y115).size ≤ 9223372036854775807 then (drachmref07_Raise.l0 k1 a1 true (x6_1 ++ (strOfNums y115)) (wrap64 (x7_1 + 1))) else (none))) else ((some (([bt a1 x7_1] : List Int) : List Int)).bind fun y118 => (if x6_1.size + (strOfNums y118).size ≤ 9223372036854775807 then (drachmref07_Raise.l0 k1 a1 true (x6_1 ++ (strOfNums y118)) (wrap64 (x7_1 + 1))) else (none)))) else ((some (([bt a1 x7_1] : List Int) : List Int)).bind fun y121 => (if x6_1.size + (strOfNums y121).size ≤ 9223372036854775807 then (drachmref07_Raise.l0 k1 a1 true (x6_1 ++ (strOfNums y121)) (wrap64 (x7_1 + 1))) else (none)))) = some r := by rw [if_pos rfl] at H; exact H
            clear H
            have H := H1
            clear H1
            by_cases c9 : (bt a1 x7_1) ≥ 97
            · rw [if_pos c9] at H
              have c9b0 : decide (97 ≤ (bt a1 x7_1)) = true := decide_eq_true c9
              clear c9
              by_cases c10 : (bt a1 x7_1) ≤ 122
              · rw [if_pos c10] at H
                have c10b0 : decide ((bt a1 x7_1) ≤ 122) = true := decide_eq_true c10
                clear c10
                obtain ⟨y115, hy115⟩ : ∃ y_ : List Int, y_ = (([((bt a1 x7_1) - 32) % 256] : List Int)) := ⟨_, rfl⟩
                replace H : (if x6_1.size + (strOfNums y115).size ≤ 9223372036854775807 then (drachmref07_Raise.l0 k1 a1 true (x6_1 ++ (strOfNums y115)) (wrap64 (x7_1 + 1))) else (none)) = some r := by first | (rw [hy115]; with_reducible exact H) | (have H2_ := (Option.bind_some _ _).symm.trans H; rw [hy115]; with_reducible exact H2_) | (have H2_ := (Option.bind_some _ _).symm.trans H; with_reducible exact H2_) | with_reducible exact H | (rw [hy115]; exact H) | exact H
                have Ny115 := Aside0.mk hy115
                clear hy115
                by_cases c11 : x6_1.size + (strOfNums y115).size ≤ 9223372036854775807
                · rw [if_pos c11] at H
                  have c11b0 := eq_true c11
                  have c11b1 : decide (x6_1.size + (strOfNums y115).size ≤ 9223372036854775807) = true := decide_eq_true c11
                  try have c11b2 : (9223372036854775807 < x6_1.size + (strOfNums y115).size) = False := eq_false (Nat.not_lt.2 c11)
                  have H' := Aside0.mk H
                  clear H
                  have p7 : 0 ≤ (x7_1 : Int) := of_decide_eq_true (by first | (with_reducible assumption) | assumption)
                  have q7 : x7_1 < (a1.size : Int) := of_decide_eq_true (by first | (with_reducible assumption) | assumption)
                  have hx7 := bt_at a1 x7_1
                  replace p7 := eq_true p7
                  replace q7 := eq_true q7
                  go_wp2_with (first | ((with_reducible refine gate_dst (N := 34) rfl ?_); refine Kd.R_lit (Kd.int .u8) _ 5 ?hg (N := 34) ?hd (xs := ([((bt a1 x7_1) - 32) % 256] : List Int)) (inner := [.int .u8 (((bt a1 x7_1) - 32) % 256)]) (ok := fun _ => True) (okp := fun _ => True) ?hr ?hp (fun _ hk => hk) trivial (Below.refl _ _) (Nat.le_refl _) (by simp) ?_; (case hd => rfl); (case hg => rfl); (case hr => first | (go_simp; done) | (go_simp; rfl)); (case hp => exact (Reps.one (show Kd.M (Kd.int .u8) _ _ _ (((bt a1 x7_1) - 32) % 256) [.int .u8 (((bt a1 x7_1) - 32) % 256)] from rfl) (Reps.none _ _))); intro v116 w12 ho13 hb hg_ hnew_; clear hg_ hnew_; (first | rw [← Ny115.out] at ho13 | (simp only [Int.reduceToNat] at ho13; rw [← Ny115.out] at ho13)); have n0_ := Aside0.mk (Kd.R_lower ho13 (below_size (by repeat (first | (with_reducible first | exact HB.out | apply below_alloc | apply pw_below_drewN | apply below_drew1) | exact HB.out)))); have n1_ := Aside0.mk (below_step (by repeat (first | (with_reducible first | exact HB.out | apply below_alloc | apply pw_below_drewN | apply below_drew1) | exact HB.out)) hb); clear HB; have HO117 := n0_; have HB := n1_; clear n0_ n1_; clear hb ho13; have hcv14 := own_string (P := Tryd.prog) Tryd.underlying42 Tryd.underlying5 Tryd.underlying9 (Kd.own_of_R HO117.out)))
                  go_roundg k1
                  case measure => have := HK1.out; omega
                  case rel => exact ⟨(x6_1 ++ (strOfNums y115)), (wrap64 (x7_1 + 1)), (by first | rfl | (simp; done) | (simp [*]; done)), (by first | rfl | (simp; done) | (simp [*]; done)), H', ⟨by have := HK1.out; omega⟩, ⟨by repeat (first | (with_reducible first | exact HB.out | apply below_alloc | apply pw_below_drewN | apply below_drew1) | exact HB.out)⟩⟩
                · rw [if_neg c11] at H
                  exact absurd H (by simp)
              · rw [if_neg c10] at H
                have c10b0 : decide ((bt a1 x7_1) ≤ 122) = false := decide_eq_false c10
                clear c10
                obtain ⟨y118, hy118⟩ : ∃ y_ : List Int, y_ = (([bt a1 x7_1] : List Int)) := ⟨_, rfl⟩
                replace H : (if x6_1.size + (strOfNums y118).size ≤ 9223372036854775807 then (drachmref07_Raise.l0 k1 a1 true (x6_1 ++ (strOfNums y118)) (wrap64 (x7_1 + 1))) else (none)) = some r := by first | (rw [hy118]; with_reducible exact H) | (have H2_ := (Option.bind_some _ _).symm.trans H; rw [hy118]; with_reducible exact H2_) | (have H2_ := (Option.bind_some _ _).symm.trans H; with_reducible exact H2_) | with_reducible exact H | (rw [hy118]; exact H) | exact H
                have Ny118 := Aside0.mk hy118
                clear hy118
                by_cases c15 : x6_1.size + (strOfNums y118).size ≤ 9223372036854775807
                · rw [if_pos c15] at H
                  have c15b0 := eq_true c15
                  have c15b1 : decide (x6_1.size + (strOfNums y118).size ≤ 9223372036854775807) = true := decide_eq_true c15
                  try have c15b2 : (9223372036854775807 < x6_1.size + (strOfNums y118).size) = False := eq_false (Nat.not_lt.2 c15)
                  have H' := Aside0.mk H
                  clear H
                  have p7 : 0 ≤ (x7_1 : Int) := of_decide_eq_true (by first | (with_reducible assumption) | assumption)
                  have q7 : x7_1 < (a1.size : Int) := of_decide_eq_true (by first | (with_reducible assumption) | assumption)
                  have hx7 := bt_at a1 x7_1
                  replace p7 := eq_true p7
                  replace q7 := eq_true q7
                  go_wp2_with (first | ((with_reducible refine gate_dst (N := 34) rfl ?_); refine Kd.R_lit (Kd.int .u8) _ 5 ?hg (N := 34) ?hd (xs := ([bt a1 x7_1] : List Int)) (inner := [.int .u8 (bt a1 x7_1)]) (ok := fun _ => True) (okp := fun _ => True) ?hr ?hp (fun _ hk => hk) trivial (Below.refl _ _) (Nat.le_refl _) (by simp) ?_; (case hd => rfl); (case hg => rfl); (case hr => first | (go_simp; done) | (go_simp; rfl)); (case hp => exact (Reps.one (show Kd.M (Kd.int .u8) _ _ _ (bt a1 x7_1) [.int .u8 (bt a1 x7_1)] from rfl) (Reps.none _ _))); intro v119 w16 ho17 hb hg_ hnew_; clear hg_ hnew_; (first | rw [← Ny118.out] at ho17 | (simp only [Int.reduceToNat] at ho17; rw [← Ny118.out] at ho17)); have n0_ := Aside0.mk (Kd.R_lower ho17 (below_size (by repeat (first | (with_reducible first | exact HB.out | apply below_alloc | apply pw_below_drewN | apply below_drew1) | exact HB.out)))); have n1_ := Aside0.mk (below_step (by repeat (first | (with_reducible first | exact HB.out | apply below_alloc | apply pw_below_drewN | apply below_drew1) | exact HB.out)) hb); clear HB; have HO120 := n0_; have HB := n1_; clear n0_ n1_; clear hb ho17; have hcv18 := own_string (P := Tryd.prog) Tryd.underlying42 Tryd.underlying5 Tryd.underlying9 (Kd.own_of_R HO120.out)))
                  go_roundg k1
                  case measure => have := HK1.out; omega
                  case rel => exact ⟨(x6_1 ++ (strOfNums y118)), (wrap64 (x7_1 + 1)), (by first | rfl | (simp; done) | (simp [*]; done)), (by first | rfl | (simp; done) | (simp [*]; done)), H', ⟨by have := HK1.out; omega⟩, ⟨by repeat (first | (with_reducible first | exact HB.out | apply below_alloc | apply pw_below_drewN | apply below_drew1) | exact HB.out)⟩⟩
                · rw [if_neg c15] at H
                  exact absurd H (by simp)
            · rw [if_neg c9] at H
              have c9b0 : decide (97 ≤ (bt a1 x7_1)) = false := decide_eq_false c9
              clear c9
              obtain ⟨y121, hy121⟩ : ∃ y_ : List Int, y_ = (([bt a1 x7_1] : List Int)) := ⟨_, rfl⟩
              replace H : (if x6_1.size + (strOfNums y121).size ≤ 9223372036854775807 then (drachmref07_Raise.l0 k1 a1 true (x6_1 ++ (strOfNums y121)) (wrap64 (x7_1 + 1))) else (none)) = some r := by first | (rw [hy121]; with_reducible exact H) | (have H2_ := (Option.bind_some _ _).symm.trans H; rw [hy121]; with_reducible exact H2_) | (have H2_ := (Option.bind_some _ _).symm.trans H; with_reducible exact H2_) | with_reducible exact H | (rw [hy121]; exact H) | exact H
              have Ny121 := Aside0.mk hy121
              clear hy121
              by_cases c19 : x6_1.size + (strOfNums y121).size ≤ 9223372036854775807
              · rw [if_pos c19] at H
                have c19b0 := eq_true c19
                have c19b1 : decide (x6_1.size + (strOfNums y121).size ≤ 9223372036854775807) = true := decide_eq_true c19
                try have c19b2 : (9223372036854775807 < x6_1.size + (strOfNums y121).size) = False := eq_false (Nat.not_lt.2 c19)
                have H' := Aside0.mk H
                clear H
                have p7 : 0 ≤ (x7_1 : Int) := of_decide_eq_true (by first | (with_reducible assumption) | assumption)
                have q7 : x7_1 < (a1.size : Int) := of_decide_eq_true (by first | (with_reducible assumption) | assumption)
                have hx7 := bt_at a1 x7_1
                replace p7 := eq_true p7
                replace q7 := eq_true q7
                go_wp2_with (first | ((with_reducible refine gate_dst (N := 34) rfl ?_); refine Kd.R_lit (Kd.int .u8) _ 5 ?hg (N := 34) ?hd (xs := ([bt a1 x7_1] : List Int)) (inner := [.int .u8 (bt a1 x7_1)]) (ok := fun _ => True) (okp := fun _ => True) ?hr ?hp (fun _ hk => hk) trivial (Below.refl _ _) (Nat.le_refl _) (by simp) ?_; (case hd => rfl); (case hg => rfl); (case hr => first | (go_simp; done) | (go_simp; rfl)); (case hp => exact (Reps.one (show Kd.M (Kd.int .u8) _ _ _ (bt a1 x7_1) [.int .u8 (bt a1 x7_1)] from rfl) (Reps.none _ _))); intro v122 w20 ho21 hb hg_ hnew_; clear hg_ hnew_; (first | rw [← Ny121.out] at ho21 | (simp only [Int.reduceToNat] at ho21; rw [← Ny121.out] at ho21)); have n0_ := Aside0.mk (Kd.R_lower ho21 (below_size (by repeat (first | (with_reducible first | exact HB.out | apply below_alloc | apply pw_below_drewN | apply below_drew1) | exact HB.out)))); have n1_ := Aside0.mk (below_step (by repeat (first | (with_reducible first | exact HB.out | apply below_alloc | apply pw_below_drewN | apply below_drew1) | exact HB.out)) hb); clear HB; have HO123 := n0_; have HB := n1_; clear n0_ n1_; clear hb ho21; have hcv22 := own_string (P := Tryd.prog) Tryd.underlying42 Tryd.underlying5 Tryd.underlying9 (Kd.own_of_R HO123.out)))
                go_roundg k1
                case measure => have := HK1.out; omega
                case rel => exact ⟨(x6_1 ++ (strOfNums y121)), (wrap64 (x7_1 + 1)), (by first | rfl | (simp; done) | (simp [*]; done)), (by first | rfl | (simp; done) | (simp [*]; done)), H', ⟨by have := HK1.out; omega⟩, ⟨by repeat (first | (with_reducible first | exact HB.out | apply below_alloc | apply pw_below_drewN | apply below_drew1) | exact HB.out)⟩⟩
              · rw [if_neg c19] at H
                exact absurd H (by simp)
          · replace c8 := Bool.eq_false_iff.mpr c8
            subst c8
            have H1 : ((some (([bt a1 x7_1] : List Int) : List Int)).bind fun y124 => (if x6_1.size + (strOfNums y124).size ≤ 9223372036854775807 then (drachmref07_Raise.l0 k1 a1 false (x6_1 ++ (strOfNums y124)) (wrap64 (x7_1 + 1))) else (none))) = some r := by rw [if_neg (show ¬ (false = true) by decide)] at H; exact H
            clear H
            have H := H1
            clear H1
            obtain ⟨y124, hy124⟩ : ∃ y_ : List Int, y_ = (([bt a1 x7_1] : List Int)) := ⟨_, rfl⟩
            replace H : (if x6_1.size + (strOfNums y124).size ≤ 9223372036854775807 then (drachmref07_Raise.l0 k1 a1 false (x6_1 ++ (strOfNums y124)) (wrap64 (x7_1 + 1))) else (none)) = some r := by first | (rw [hy124]; with_reducible exact H) | (have H2_ := (Option.bind_some _ _).symm.trans H; rw [hy124]; with_reducible exact H2_) | (have H2_ := (Option.bind_some _ _).symm.trans H; with_reducible exact H2_) | with_reducible exact H | (rw [hy124]; exact H) | exact H
            have Ny124 := Aside0.mk hy124
            clear hy124
            by_cases c23 : x6_1.size + (strOfNums y124).size ≤ 9223372036854775807
            · rw [if_pos c23] at H
              have c23b0 := eq_true c23
              have c23b1 : decide (x6_1.size + (strOfNums y124).size ≤ 9223372036854775807) = true := decide_eq_true c23
              try have c23b2 : (9223372036854775807 < x6_1.size + (strOfNums y124).size) = False := eq_false (Nat.not_lt.2 c23)
              have H' := Aside0.mk H
              clear H
              have p7 : 0 ≤ (x7_1 : Int) := of_decide_eq_true (by first | (with_reducible assumption) | assumption)
              have q7 : x7_1 < (a1.size : Int) := of_decide_eq_true (by first | (with_reducible assumption) | assumption)
              have hx7 := bt_at a1 x7_1
              replace p7 := eq_true p7
              replace q7 := eq_true q7
              go_wp2_with (first | ((with_reducible refine gate_dst (N := 34) rfl ?_); refine Kd.R_lit (Kd.int .u8) _ 5 ?hg (N := 34) ?hd (xs := ([bt a1 x7_1] : List Int)) (inner := [.int .u8 (bt a1 x7_1)]) (ok := fun _ => True) (okp := fun _ => True) ?hr ?hp (fun _ hk => hk) trivial (Below.refl _ _) (Nat.le_refl _) (by simp) ?_; (case hd => rfl); (case hg => rfl); (case hr => first | (go_simp; done) | (go_simp; rfl)); (case hp => exact (Reps.one (show Kd.M (Kd.int .u8) _ _ _ (bt a1 x7_1) [.int .u8 (bt a1 x7_1)] from rfl) (Reps.none _ _))); intro v125 w24 ho25 hb hg_ hnew_; clear hg_ hnew_; (first | rw [← Ny124.out] at ho25 | (simp only [Int.reduceToNat] at ho25; rw [← Ny124.out] at ho25)); have n0_ := Aside0.mk (Kd.R_lower ho25 (below_size (by repeat (first | (with_reducible first | exact HB.out | apply below_alloc | apply pw_below_drewN | apply below_drew1) | exact HB.out)))); have n1_ := Aside0.mk (below_step (by repeat (first | (with_reducible first | exact HB.out | apply below_alloc | apply pw_below_drewN | apply below_drew1) | exact HB.out)) hb); clear HB; have HO126 := n0_; have HB := n1_; clear n0_ n1_; clear hb ho25; have hcv26 := own_string (P := Tryd.prog) Tryd.underlying42 Tryd.underlying5 Tryd.underlying9 (Kd.own_of_R HO126.out)))
              go_roundg k1
              case measure => have := HK1.out; omega
              case rel => exact ⟨(x6_1 ++ (strOfNums y124)), (wrap64 (x7_1 + 1)), (by first | rfl | (simp; done) | (simp [*]; done)), (by first | rfl | (simp; done) | (simp [*]; done)), H', ⟨by have := HK1.out; omega⟩, ⟨by repeat (first | (with_reducible first | exact HB.out | apply below_alloc | apply pw_below_drewN | apply below_drew1) | exact HB.out)⟩⟩
            · rw [if_neg c23] at H
              exact absurd H (by simp)
        · rw [if_neg c6] at H
          exact absurd H (by simp)
      · rw [if_neg c5] at H
        have c5b0 : decide (x7_1 < (a1.size : Int)) = false := decide_eq_false c5
        clear c5
        obtain rfl := Option.some.inj H
        go_wp2
        go_ret
        exact ⟨by first | rfl | (simp [errW_none, errW_some] <;> rfl) | (simp [*, errW_none, errW_some] <;> rfl), by repeat (first | (with_reducible first | exact HB.out | apply below_alloc | apply pw_below_drewN | apply below_drew1) | exact HB.out)⟩

end Go.Proofs.YtgcaelopcdpkgaaDoor.PBase
