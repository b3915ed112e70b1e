/- Printed by a program of this session (wip/tools/prt.py) out of the translation: plain functions, and that the calls come to just them. No conditions beyond those that stand in each theorem. -/
import Derived.Test.YtbfajaeghiodnaaPRx0
namespace Go.Proofs.Ytbfajaeghiodnaa.PR
open Go.Proofs.Ytbfajaeghiodnaa.Sq Go.RowKit Go.Proofs.YtbfajaeghiodnaaW.PrintWords Go.Proofs.YtbfajaeghiodnaaW.PrintLast Go.Proofs.YtbfajaeghiodnaaW.PrintMore Go.Proofs.Ytbfajaeghiodnaa.PBase
attribute [local go_sem] max2_int min2_int max_two min_two max_three min_three max_four min_four   -- for this text's walks alone
set_option linter.unusedVariables false
set_option linter.unusedSimpArgs false

/-! ### drachmref01_Parts: function 16 -/
mutual
def drachmref01_Parts.j0 : Nat → Int → Bool → Option ((List (S39)))
 | 0, _, _ => none
 | k + 1, x0, x15 => if x15 = true then (some ([] : List (S39))) else ((drachmref01_size.f x0).bind fun t102 => (drachmref01_Parts.l0 k t102 ([] : List (S39)) 2))
def drachmref01_Parts.l0 : Nat → Int → List (S39) → Int → Option ((List (S39)))
 | 0, _, _, _ => none
 | k + 1, x4, x5, x6 => if x6 ≤ 1048576 then (drachmref01_Parts.j2 k x4 x5 x6 (decide ((wrap64 (x6 * x6)) ≤ x4))) else (drachmref01_Parts.j2 k x4 x5 x6 false)
def drachmref01_Parts.j2 : Nat → Int → List (S39) → Int → Bool → Option ((List (S39)))
 | 0, _, _, _, _ => none
 | k + 1, x4, x5, x6, x26 => if x26 = true then ((drachmref01_Split.f k x4 x6).bind fun bt103 => (if bt103.1 > 0 then (if x5.length < 8796093022208 then (drachmref01_Parts.l0 k bt103.2 (x5 ++ [(⟨x6, bt103.1⟩ : S39)]) (wrap64 (x6 + 1))) else (none)) else (drachmref01_Parts.l0 k x4 x5 (wrap64 (x6 + 1))))) else (if x4 > 1 then (if x5.length < 8796093022208 then (some (x5 ++ [(⟨x4, 1⟩ : S39)])) else (none)) else (some x5))
end
def drachmref01_Parts.f (k : Nat) (a0 : Int) : Option ((List (S39))) := (drachmref01_Fits.f a0).bind fun t101 => (if t101 = true then (drachmref01_Parts.j0 k a0 (a0 == 0)) else (drachmref01_Parts.j0 k a0 true))
theorem drachmref01_Parts.mono_l : ∀ k, (∀ y0 y1, LeO (drachmref01_Parts.j0 k y0 y1) (drachmref01_Parts.j0 (k + 1) y0 y1)) ∧ (∀ y0 y1 y2, LeO (drachmref01_Parts.l0 k y0 y1 y2) (drachmref01_Parts.l0 (k + 1) y0 y1 y2)) ∧ (∀ y0 y1 y2 y3, LeO (drachmref01_Parts.j2 k y0 y1 y2 y3) (drachmref01_Parts.j2 (k + 1) y0 y1 y2 y3))
 | 0 => ⟨fun _ _ r h => by simp [drachmref01_Parts.j0] at h, fun _ _ _ r h => by simp [drachmref01_Parts.l0] at h, fun _ _ _ _ r h => by simp [drachmref01_Parts.j2] at h⟩
 | k + 1 => by
  obtain ⟨ih0, ih1, ih2⟩ := drachmref01_Parts.mono_l k
  refine ⟨?_, ?_, ?_⟩
  ·intro y0 y1
   unfold drachmref01_Parts.j0
   repeat' first
   | (with_reducible exact ih0 _ _)
   | (with_reducible exact ih1 _ _ _)
   | (with_reducible exact ih2 _ _ _ _)
   | (with_reducible exact drachmref01_Split.mono _ _ _)
   | (with_reducible exact LeO.refl _)
   | (with_reducible exact LeO.none _)
   | (with_reducible refine LeO.ite ?_ ?_)
   | (with_reducible refine LeO.bind ?_ (fun _ => ?_))
   | exact ih0 _ _
   | exact ih1 _ _ _
   | exact ih2 _ _ _ _
   | exact drachmref01_Split.mono _ _ _
   | exact LeO.none _
   | refine LeO.ite ?_ ?_
   | refine LeO.bind ?_ (fun _ => ?_)
  ·intro y0 y1 y2
   unfold drachmref01_Parts.l0
   repeat' first
   | (with_reducible exact ih0 _ _)
   | (with_reducible exact ih1 _ _ _)
   | (with_reducible exact ih2 _ _ _ _)
   | (with_reducible exact drachmref01_Split.mono _ _ _)
   | (with_reducible exact LeO.refl _)
   | (with_reducible exact LeO.none _)
   | (with_reducible refine LeO.ite ?_ ?_)
   | (with_reducible refine LeO.bind ?_ (fun _ => ?_))
   | exact ih0 _ _
   | exact ih1 _ _ _
   | exact ih2 _ _ _ _
   | exact drachmref01_Split.mono _ _ _
   | exact LeO.none _
   | refine LeO.ite ?_ ?_
   | refine LeO.bind ?_ (fun _ => ?_)
  ·intro y0 y1 y2 y3
   unfold drachmref01_Parts.j2
   repeat' first
   | (with_reducible exact ih0 _ _)
   | (with_reducible exact ih1 _ _ _)
   | (with_reducible exact ih2 _ _ _ _)
   | (with_reducible exact drachmref01_Split.mono _ _ _)
   | (with_reducible exact LeO.refl _)
   | (with_reducible exact LeO.none _)
   | (with_reducible refine LeO.ite ?_ ?_)
   | (with_reducible refine LeO.bind ?_ (fun _ => ?_))
   | exact ih0 _ _
   | exact ih1 _ _ _
   | exact ih2 _ _ _ _
   | exact drachmref01_Split.mono _ _ _
   | exact LeO.none _
   | refine LeO.ite ?_ ?_
   | refine LeO.bind ?_ (fun _ => ?_)
theorem drachmref01_Parts.mono : ∀ a0 k, LeO (drachmref01_Parts.f k a0) (drachmref01_Parts.f (k + 1) a0) := by
 intro a0 k
 obtain ⟨ih0, ih1, ih2⟩ := drachmref01_Parts.mono_l k
 unfold drachmref01_Parts.f
 repeat' first
   | (with_reducible exact ih0 _ _)
   | (with_reducible exact ih1 _ _ _)
   | (with_reducible exact ih2 _ _ _ _)
   | (with_reducible exact drachmref01_Split.mono _ _ _)
   | (with_reducible exact LeO.refl _)
   | (with_reducible exact LeO.none _)
   | (with_reducible refine LeO.ite ?_ ?_)
   | (with_reducible refine LeO.bind ?_ (fun _ => ?_))
   | exact ih0 _ _
   | exact ih1 _ _ _
   | exact ih2 _ _ _ _
   | exact drachmref01_Split.mono _ _ _
   | exact LeO.none _
   | refine LeO.ite ?_ ?_
   | refine LeO.bind ?_ (fun _ => ?_)
set_option maxHeartbeats 8000000 in
set_option maxRecDepth 100000 in
theorem drachmref01_Parts.calls (k : Nat) (a0 : Int) (r : List (S39)) (w : World) (h : drachmref01_Parts.f k a0 = some r) :
  Calls Try.prog 16 #[.int .i64 a0] w fun e w' => ∃ v0_ : Value, e = .returned (v0_) ∧ Kd.R k39 39 w' w.heap.size (fun _ => True) v0_ r ∧ Below w.heap.size w w' := by
 have hu44 := Try.underlying44
 have hu39 := Try.underlying39
 have HB := Aside0.mk (Below.refl w.heap.size w)
 have H : ((drachmref01_Fits.f a0).bind fun t101 => (if t101 = true then (drachmref01_Parts.j0 k a0 (a0 == 0)) else (drachmref01_Parts.j0 k a0 true))) = some r := h
 clear h
 replace H := Option.bind_eq_some_iff.mp H
 obtain ⟨t101, A20, H⟩ := H
 replace H : (if t101 = true then (drachmref01_Parts.j0 k a0 (a0 == 0)) else (drachmref01_Parts.j0 k a0 true)) = some r := H
 have A2 := Aside0.mk A20
 clear A20
 have HC3 := Aside0.mk H
 clear H
 go_enter Try.func16, Try.ntmps16
 go_upto_region 2 with (first | ((with_reducible refine gate_callee (f := 23) rfl ?_); refine goesL_ (some 9) rfl rfl Try.func23 (by kernel_rfl) rfl #[.int .i64 a0] rfl (by (try simp only [List.map_toArray, List.map_cons, List.map_nil]); first | done | rfl | (simp only [List.length_drop, List.length_take]; rfl)) ?_; (with_reducible refine (drachmref01_Fits.calls a0 t101 _ A2.out).mono ?_); rintro e w' ⟨rfl, ⟨nd, rfl⟩⟩; refine ⟨_, rfl, ?_⟩))
 (try simp only [Act.put, List.setIfInBounds_toArray, List.set_cons_zero, List.set_cons_succ])
 go_cut [15] (fun v15 wc => ∃ (kq : Nat) (x15_2 : Bool), v15 = .bool x15_2 ∧ Aside0 (drachmref01_Parts.j0 kq a0 x15_2 = some r) ∧ Aside0 (kq ≤ k) ∧ Aside0 (Below w.heap.size w wc))
 case first =>
  have H := HC3.out
  clear HC3
  by_cases c4 : t101 = true
  ·subst c4
   have H1 : (drachmref01_Parts.j0 k a0 (a0 == 0)) = some r := by rw [if_pos rfl] at H; exact H
   clear H
   have H := H1
   clear H1
   have H' := Aside0.mk H
   clear H
   go_wp2
   go_meet
   case rel => exact ⟨_, ((a0 == 0)), (by first | rfl | (simp; done) | (simp [*]; done)), H', ⟨by first | omega | exact Nat.le_refl _⟩, ⟨bl HB.out⟩⟩
  ·replace c4 := Bool.eq_false_iff.mpr c4
   subst c4
   have H1 : (drachmref01_Parts.j0 k a0 true) = some r := by rw [if_neg (show ¬ (false = true) by decide)] at H; exact H
   clear H
   have H := H1
   clear H1
   have H' := Aside0.mk H
   clear H
   go_wp2
   go_meet
   case rel => exact ⟨_, (true), (by first | rfl | (simp; done) | (simp [*]; done)), H', ⟨by first | omega | exact Nat.le_refl _⟩, ⟨bl HB.out⟩⟩
 case rest =>
  clear HC3
  try clear c1
  try clear c2
  try clear p2
  try clear c4
  obtain ⟨kq, x15_2, rfl, HA, HJ2, HB⟩ := hcut
  cases kq with
  | zero => exact absurd HA.out (by simp [drachmref01_Parts.j0])
  | succ kj2 =>
   have H := HA.out
   clear HA
   simp only [drachmref01_Parts.j0] at H
   by_cases c5 : x15_2 = true
   ·subst c5
    have H1 : (some ([] : List (S39))) = some r := by rw [if_pos rfl] at H; exact H
    clear H
    have H := H1
    clear H1
    obtain rfl := Option.some.inj H
    go_wp2
    go_ret
    exact ⟨_, by first | rfl | (simp [errW_none, errW_some] <;> rfl) | (simp [*, errW_none, errW_some] <;> rfl), by first | exact Kd.R_nil _ _ _ _ _ | exact Kd.N_nil _ _ _ _ _ | exact Kd.V_nil _ _ _ _ _ | exact Kd.Q_nil _ _ _ _ _ | exact Kd.S_nil _ _ _ _ _, bl HB.out⟩
   ·replace c5 := Bool.eq_false_iff.mpr c5
    subst c5
    have H1 : ((drachmref01_size.f a0).bind fun t102 => (drachmref01_Parts.l0 kj2 t102 ([] : List (S39)) 2)) = some r := by rw [if_neg (show ¬ (false = true) by decide)] at H; exact H
    clear H
    have H := H1
    clear H1
    replace H := Option.bind_eq_some_iff.mp H
    obtain ⟨t102, A60, H⟩ := H
    replace H : (drachmref01_Parts.l0 kj2 t102 ([] : List (S39)) 2) = some r := H
    have A6 := Aside0.mk A60
    clear A60
    have H' := Aside0.mk H
    clear H
    go_wp2_with (first | ((with_reducible refine gate_callee (f := 28) rfl ?_); refine goesL_ (some 17) rfl rfl Try.func28 (by kernel_rfl) rfl #[.int .i64 a0] rfl (by (try simp only [List.map_toArray, List.map_cons, List.map_nil]); first | done | rfl | (simp only [List.length_drop, List.length_take]; rfl)) ?_; (with_reducible refine (drachmref01_size.calls a0 t102 _ A6.out).mono ?_); rintro e w' ⟨rfl, ⟨nd, rfl⟩⟩; refine ⟨_, rfl, ?_⟩))
    go_loopg [4, 5, 6] kj2 (fun kq v4 v5 v6 w' => ∃ (x4_2 : Int) (x5_2 : List (S39)) (x6_2 : Int), v4 = .int .i64 x4_2 ∧ v6 = .int .i64 x6_2 ∧ Aside0 (drachmref01_Parts.l0 kq x4_2 x5_2 x6_2 = some r) ∧ Aside0 (kq ≤ kj2) ∧ Aside0 (Kd.R k39 39 w' w.heap.size (fun _ => True) v5 x5_2) ∧ Aside0 (Below w.heap.size w w'))
    case atStart => exact ⟨(t102), (([] : List (S39))), (2), (by first | rfl | (simp; done) | (simp [*]; done)), (by first | rfl | (simp; done) | (simp [*]; done)), H', ⟨Nat.le_refl _⟩, ⟨by first | exact Kd.R_nil _ _ _ _ _ | exact Kd.N_nil _ _ _ _ _ | exact Kd.V_nil _ _ _ _ _ | exact Kd.Q_nil _ _ _ _ _ | exact Kd.S_nil _ _ _ _ _⟩, ⟨bl HB.out⟩⟩
    case round =>
     clear H'
     try clear c1
     try clear c2
     try clear p2
     try clear c4
     try clear c5
     try clear p2
     obtain ⟨x4_2, x5_2, x6_2, rfl, rfl, HA, HK2, HO_5, HB⟩ := hrel
     cases gk with
     | zero => exact absurd HA.out (by simp [drachmref01_Parts.l0])
     | succ k2 =>
      have H := HA.out
      clear HA
      simp only [drachmref01_Parts.l0] at H
      have HC7 := Aside0.mk H
      clear H
      go_upto_region 7 with (fail)
      go_cut [26] (fun v26 wc => ∃ (kq : Nat) (x26_6 : Bool), v26 = .bool x26_6 ∧ Aside0 (drachmref01_Parts.j2 kq x4_2 x5_2 x6_2 x26_6 = some r) ∧ Aside0 (kq ≤ k2) ∧ Aside0 (Kd.R k39 39 wc w.heap.size (fun _ => True) u5 x5_2) ∧ Aside0 (Below w.heap.size w wc))
      case first =>
       have H := HC7.out
       clear HC7
       by_cases c8 : x6_2 ≤ 1048576
       ·rw [if_pos c8] at H
        have c8b0 : decide (x6_2 ≤ 1048576) = true := decide_eq_true c8
        clear c8
        (first | rw [c8b0] | (simp only [i64_w, i32_w]; rw [c8b0]) | skip)
        have H' := Aside0.mk H
        clear H
        go_wp2
        go_meet
        case rel => exact ⟨_, (decide ((wrap64 (x6_2 * x6_2)) ≤ x4_2)), (by first | rfl | (simp; done) | (simp [*]; done)), H', ⟨by have := HJ2.out; have := HK2.out; first | omega | exact Nat.le_refl _⟩, ⟨by (with_reducible repeat (first | apply Kd.R_alloc | apply Kd.R_drewN | apply Kd.R_drew)); exact HO_5.out⟩, ⟨bl HB.out⟩⟩
       ·rw [if_neg c8] at H
        have c8b0 : decide (x6_2 ≤ 1048576) = false := decide_eq_false c8
        clear c8
        (first | rw [c8b0] | (simp only [i64_w, i32_w]; rw [c8b0]) | skip)
        have H' := Aside0.mk H
        clear H
        go_wp2
        go_meet
        case rel => exact ⟨_, (false), (by first | rfl | (simp; done) | (simp [*]; done)), H', ⟨by have := HJ2.out; have := HK2.out; first | omega | exact Nat.le_refl _⟩, ⟨by (with_reducible repeat (first | apply Kd.R_alloc | apply Kd.R_drewN | apply Kd.R_drew)); exact HO_5.out⟩, ⟨bl HB.out⟩⟩
      case rest =>
       clear HC7
       try clear c1
       try clear c2
       try clear p2
       try clear c4
       try clear c5
       try clear p6
       try clear c8
       try clear c8b0
       try clear p2
       obtain ⟨kq, x26_6, rfl, HA, HJ6, HO_5, HB⟩ := hcut
       cases kq with
       | zero => exact absurd HA.out (by simp [drachmref01_Parts.j2])
       | succ kj6 =>
        have H := HA.out
        clear HA
        simp only [drachmref01_Parts.j2] at H
        by_cases c9 : x26_6 = true
        ·subst c9
         have H1 : ((drachmref01_Split.f kj6 x4_2 x6_2).bind fun bt103 => (if bt103.1 > 0 then (if x5_2.length < 8796093022208 then (drachmref01_Parts.l0 kj6 bt103.2 (x5_2 ++ [(⟨x6_2, bt103.1⟩ : S39)]) (wrap64 (x6_2 + 1))) else (none)) else (drachmref01_Parts.l0 kj6 x4_2 x5_2 (wrap64 (x6_2 + 1))))) = some r := by rw [if_pos rfl] at H; exact H
         clear H
         have H := H1
         clear H1
         replace H := Option.bind_eq_some_iff.mp H
         obtain ⟨⟨t103, t104⟩, A100, H⟩ := H
         replace H : (if t103 > 0 then (if x5_2.length < 8796093022208 then (drachmref01_Parts.l0 kj6 t104 (x5_2 ++ [(⟨x6_2, t103⟩ : S39)]) (wrap64 (x6_2 + 1))) else (none)) else (drachmref01_Parts.l0 kj6 x4_2 x5_2 (wrap64 (x6_2 + 1)))) = some r := H
         have A10 := Aside0.mk A100
         clear A100
         by_cases c11 : t103 > 0
         ·rw [if_pos c11] at H
          have c11b0 : decide (0 < t103) = true := decide_eq_true c11
          clear c11
          by_cases c12 : x5_2.length < 8796093022208
          ·rw [if_pos c12] at H
           have LMc12 := Aside0.mk c12
           clear c12
           obtain ⟨y106, hy106⟩ : ∃ y_ : List (S39), y_ = (x5_2 ++ [(⟨x6_2, t103⟩ : S39)]) := ⟨_, rfl⟩
           replace H : (drachmref01_Parts.l0 kj6 t104 y106 (wrap64 (x6_2 + 1))) = some r := by first | (rw [hy106]; with_reducible exact H) | (have H2_ := (Option.bind_some _ _).symm.trans H; rw [hy106]; with_reducible exact H2_) | (have H2_ := (Option.bind_some _ _).symm.trans H; with_reducible exact H2_) | with_reducible exact H | (rw [hy106]; exact H) | exact H
           have Ny106 := Aside0.mk hy106
           clear hy106
           have H' := Aside0.mk H
           clear H
           go_wp2_with (first | ((with_reducible refine gate_callee (f := 20) rfl ?_); refine goesL_ (some 31) rfl rfl Try.func20 (by kernel_rfl) rfl #[.int .i64 x4_2, .int .i64 x6_2] rfl (by (try simp only [List.map_toArray, List.map_cons, List.map_nil]); first | done | rfl | (simp only [List.length_drop, List.length_take]; rfl)) ?_; (with_reducible refine (drachmref01_Split.calls kj6 x4_2 x6_2 t103 t104 _ A10.out).mono ?_); rintro e w13 ⟨rfl, hb⟩; refine ⟨_, rfl, ?_⟩; have n0_ := Aside0.mk (Kd.R_below (by (with_reducible repeat (first | apply Kd.R_alloc | apply Kd.R_drewN | apply Kd.R_drew)); exact HO_5.out) hb); have n1_ := Aside0.mk (below_step (bl HB.out) hb); clear HO_5; clear HB; have HO_5 := n0_; have HB := n1_; clear n0_ n1_; (try clear hb); (try clear hb2); (try clear hk); (try clear hi)) | ((with_reducible refine gate_dst (N := 7) rfl ?_); refine box_event ?hg (N := 7) ?hd (cs := #[.int .i64 0, .int .i64 0]) (t := 44) ?hr ?_; (case hd => rfl); (case hg => rfl); (case hr => first | (go_simp; done) | (go_simp; rfl)); intro gb105 hg w14 hbox hb; have n0_ := Aside0.mk (Kd.R_below (by (with_reducible repeat (first | apply Kd.R_alloc | apply Kd.R_drewN | apply Kd.R_drew)); exact HO_5.out) hb); have n1_ := Aside0.mk (below_step (bl HB.out) hb); have n2_ := Aside0.mk (hbox); have n3_ := Aside0.mk ((by rw [hg]; exact (below_size (bl HB.out)) : w.heap.size ≤ gb105)); have n4_ := Aside0.mk ((by rw [hg]; exact (below_size (bl HB.out)) : w.heap.size ≤ gb105)); clear HO_5; clear HB; have HO_5 := n0_; have HB := n1_; have BK105 := n2_; have GW105 := n3_; have GE105 := n4_; clear n0_ n1_ n2_ n3_ n4_; clear hb hbox hg; obtain ⟨hcz15_0, hcz15_1⟩ := hc2 BK105.out; obtain ⟨hfz15_0, hfz15_1⟩ := hf2 BK105.out) | ((with_reducible refine gate_builtin (b := .append) (xs := #[.tmp 35, .tmp 40]) rfl ?_); at_builtin; refine Kd.R_append k39 (w0 := w) w.heap.size rfl (.tmp 35) (.tmp 40) 33 39 (.agg #[(.int .i64 0), (.int .i64 0)]) 16 rfl Try.underlying33 info39 rfl (by decide) (by omega) u5 x5_2 (⟨x6_2, t103⟩ : S39) [.int .i64 x6_2, .int .i64 t103] (fun _ => True) (fun _ => False) rfl (by first | (go_simp; done) | (go_simp; rfl)) ?aP (fun _ hk => hk.elim) ?aF ?aO ?aB ?aS ?aL ?_; (case aP => exact k39_mkM _ _ _ (⟨x6_2, t103⟩ : S39)); (case aB => exact (bl HB.out)); (case aF => exact (fun _ _ => trivial)); (case aO => exact (by (with_reducible repeat (first | apply Kd.R_alloc | apply Kd.R_drewN | apply Kd.R_drew)); exact Kd.R_mono (Kd.R_far (p := ⟨gb105, 1, none⟩) (Kd.R_far (p := ⟨gb105, 0, none⟩) (Kd.R_types HO_5.out BK105.out (by decide)) (fun _ hk => hk.2) (.int .i64 t103)) (fun _ hk => hk.2) (.int .i64 t104)) (fun _ hk => trivial))); (case aS => exact (below_size (bl HB.out))); (case aL => have := LMc12.out; omega); intro v107 w16 ho hb hg hat; rw [← Ny106.out] at ho; have HO108 := Aside0.mk (ho); replace BK105 := Aside0.mk (blk_grown (kp (p2_1 (kp (p2_0 (kp BK105.out))))) hg (Kd.R_ne HO_5.out BK105.out (by decide))); replace HB := Aside0.mk (hb); clear HO_5; clear ho hb hg hat; obtain ⟨hcz17_0, hcz17_1⟩ := hc2 BK105.out; obtain ⟨hfz17_0, hfz17_1⟩ := hf2 BK105.out))
           go_roundg kj6
           case measure => have := HJ2.out; have := HK2.out; have := HJ6.out; omega
           case rel => exact ⟨(t104), (y106), (wrap64 (x6_2 + 1)), (by first | rfl | (simp; done) | (simp [*]; done)), (by first | rfl | (simp; done) | (simp [*]; done)), H', ⟨by have := HJ2.out; have := HK2.out; have := HJ6.out; omega⟩, ⟨by (with_reducible repeat (first | apply Kd.R_alloc | apply Kd.R_drewN | apply Kd.R_drew)); exact HO108.out⟩, ⟨bl HB.out⟩⟩
          ·rw [if_neg c12] at H
           exact absurd H (by simp)
         ·rw [if_neg c11] at H
          have c11b0 : decide (0 < t103) = false := decide_eq_false c11
          clear c11
          have H' := Aside0.mk H
          clear H
          go_wp2_with (first | ((with_reducible refine gate_callee (f := 20) rfl ?_); refine goesL_ (some 31) rfl rfl Try.func20 (by kernel_rfl) rfl #[.int .i64 x4_2, .int .i64 x6_2] rfl (by (try simp only [List.map_toArray, List.map_cons, List.map_nil]); first | done | rfl | (simp only [List.length_drop, List.length_take]; rfl)) ?_; (with_reducible refine (drachmref01_Split.calls kj6 x4_2 x6_2 t103 t104 _ A10.out).mono ?_); rintro e w18 ⟨rfl, hb⟩; refine ⟨_, rfl, ?_⟩; have n0_ := Aside0.mk (Kd.R_below (by (with_reducible repeat (first | apply Kd.R_alloc | apply Kd.R_drewN | apply Kd.R_drew)); exact HO_5.out) hb); have n1_ := Aside0.mk (below_step (bl HB.out) hb); clear HO_5; clear HB; have HO_5 := n0_; have HB := n1_; clear n0_ n1_; (try clear hb); (try clear hb2); (try clear hk); (try clear hi)) | ((with_reducible refine gate_dst (N := 7) rfl ?_); refine box_event ?hg (N := 7) ?hd (cs := #[.int .i64 0, .int .i64 0]) (t := 44) ?hr ?_; (case hd => rfl); (case hg => rfl); (case hr => first | (go_simp; done) | (go_simp; rfl)); intro gb105 hg w19 hbox hb; have n0_ := Aside0.mk (Kd.R_below (by (with_reducible repeat (first | apply Kd.R_alloc | apply Kd.R_drewN | apply Kd.R_drew)); exact HO_5.out) hb); have n1_ := Aside0.mk (below_step (bl HB.out) hb); have n2_ := Aside0.mk (hbox); have n3_ := Aside0.mk ((by rw [hg]; exact (below_size (bl HB.out)) : w.heap.size ≤ gb105)); have n4_ := Aside0.mk ((by rw [hg]; exact (below_size (bl HB.out)) : w.heap.size ≤ gb105)); clear HO_5; clear HB; have HO_5 := n0_; have HB := n1_; have BK105 := n2_; have GW105 := n3_; have GE105 := n4_; clear n0_ n1_ n2_ n3_ n4_; clear hb hbox hg; obtain ⟨hcz20_0, hcz20_1⟩ := hc2 BK105.out; obtain ⟨hfz20_0, hfz20_1⟩ := hf2 BK105.out))
          go_roundg kj6
          case measure => have := HJ2.out; have := HK2.out; have := HJ6.out; omega
          case rel => exact ⟨(x4_2), (x5_2), (wrap64 (x6_2 + 1)), (by first | rfl | (simp; done) | (simp [*]; done)), (by first | rfl | (simp; done) | (simp [*]; done)), H', ⟨by have := HJ2.out; have := HK2.out; have := HJ6.out; omega⟩, ⟨by (with_reducible repeat (first | apply Kd.R_alloc | apply Kd.R_drewN | apply Kd.R_drew)); exact Kd.R_mono (Kd.R_far (p := ⟨gb105, 1, none⟩) (Kd.R_far (p := ⟨gb105, 0, none⟩) (Kd.R_types HO_5.out BK105.out (by decide)) (fun _ hk => hk.2) (.int .i64 t103)) (fun _ hk => hk.2) (.int .i64 t104)) (fun _ hk => trivial)⟩, ⟨bl HB.out⟩⟩
        ·replace c9 := Bool.eq_false_iff.mpr c9
         subst c9
         have H1 : (if x4_2 > 1 then (if x5_2.length < 8796093022208 then (some (x5_2 ++ [(⟨x4_2, 1⟩ : S39)])) else (none)) else (some x5_2)) = some r := by rw [if_neg (show ¬ (false = true) by decide)] at H; exact H
         clear H
         have H := H1
         clear H1
         by_cases c21 : x4_2 > 1
         ·rw [if_pos c21] at H
          have c21b0 : decide (1 < x4_2) = true := decide_eq_true c21
          clear c21
          by_cases c22 : x5_2.length < 8796093022208
          ·rw [if_pos c22] at H
           have LMc22 := Aside0.mk c22
           clear c22
           obtain ⟨y109, hy109⟩ : ∃ y_ : List (S39), y_ = (x5_2 ++ [(⟨x4_2, 1⟩ : S39)]) := ⟨_, rfl⟩
           replace H : (some y109) = some r := by first | (rw [hy109]; with_reducible exact H) | (have H2_ := (Option.bind_some _ _).symm.trans H; rw [hy109]; with_reducible exact H2_) | (have H2_ := (Option.bind_some _ _).symm.trans H; with_reducible exact H2_) | with_reducible exact H | (rw [hy109]; exact H) | exact H
           have Ny109 := Aside0.mk hy109
           clear hy109
           obtain rfl := Option.some.inj H
           go_wp2_with (first | ((with_reducible refine gate_builtin (b := .append) (xs := #[.tmp 46, .tmp 49]) rfl ?_); at_builtin; refine Kd.R_append k39 (w0 := w) w.heap.size rfl (.tmp 46) (.tmp 49) 33 39 (.agg #[(.int .i64 0), (.int .i64 0)]) 16 rfl Try.underlying33 info39 rfl (by decide) (by omega) u5 x5_2 (⟨x4_2, 1⟩ : S39) [.int .i64 x4_2, .int .i64 1] (fun _ => True) (fun _ => False) rfl rfl ?aP (fun _ hk => hk.elim) ?aF ?aO ?aB ?aS ?aL ?_; (case aP => exact k39_mkM _ _ _ (⟨x4_2, 1⟩ : S39)); (case aB => exact (bl HB.out)); (case aF => exact (fun _ _ => trivial)); (case aO => exact (by (with_reducible repeat (first | apply Kd.R_alloc | apply Kd.R_drewN | apply Kd.R_drew)); exact HO_5.out)); (case aS => exact (below_size (bl HB.out))); (case aL => have := LMc22.out; omega); intro v110 w23 ho hb hg hat; rw [← Ny109.out] at ho; have HO111 := Aside0.mk (ho); replace HB := Aside0.mk (hb); clear HO_5; clear ho hb hg hat))
           go_ret
           exact ⟨_, by first | rfl | (simp [errW_none, errW_some] <;> rfl) | (simp [*, errW_none, errW_some] <;> rfl), by (with_reducible repeat (first | apply Kd.R_alloc | apply Kd.R_drewN | apply Kd.R_drew)); exact HO111.out, bl HB.out⟩
          ·rw [if_neg c22] at H
           exact absurd H (by simp)
         ·rw [if_neg c21] at H
          have c21b0 : decide (1 < x4_2) = false := decide_eq_false c21
          clear c21
          obtain rfl := Option.some.inj H
          go_wp2
          go_ret
          exact ⟨_, by first | rfl | (simp [errW_none, errW_some] <;> rfl) | (simp [*, errW_none, errW_some] <;> rfl), by (with_reducible repeat (first | apply Kd.R_alloc | apply Kd.R_drewN | apply Kd.R_drew)); exact HO_5.out, bl HB.out⟩

end Go.Proofs.Ytbfajaeghiodnaa.PR
