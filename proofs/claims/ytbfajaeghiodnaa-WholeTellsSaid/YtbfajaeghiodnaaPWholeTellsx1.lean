/- Printed by a program of this session (wip/tools/prt.py) out of the translation: plain functions, and that the calls come to just them. No conditions beyond those that stand in each theorem. -/
import Derived.Test.YtbfajaeghiodnaaPWholeTellsx0
namespace Go.Proofs.Ytbfajaeghiodnaa.PWholeTells
open Go.RowKit Go.Proofs.YtbfajaeghiodnaaW.PrintWords Go.Proofs.YtbfajaeghiodnaaW.PrintLast Go.Proofs.YtbfajaeghiodnaaW.PrintMore Go.Proofs.Ytbfajaeghiodnaa.PBase
attribute [local go_sem] max2_int min2_int max_two min_two max_three min_three max_four min_four   -- for this text's walks alone
set_option linter.unusedVariables false
set_option linter.unusedSimpArgs false

/-! ### drachmlaw01_WholeTells: function 3 -/
def drachmlaw01_WholeTells.f (k : Nat) (a0 : Int) (a1 : Int) (a2 : Int) : Option (Bool) := (drachmlaw01_awake.f k).bind fun t101 => (if t101 = true then ((drachmlaw01_tells.f k a0 a1).bind fun t102 => (if t102 = true then (if 0 ≤ (IntKind.u64.wrap (Go.bits .and .i64 a2 63)) then ((drachmlaw01_tells.f k (shr .i64 a0 (IntKind.u64.wrap (Go.bits .and .i64 a2 63))) a1).bind fun t103 => (if t103 = true then ((drachmlaw01_tells.f k (shr .i64 a0 (IntKind.u64.wrap (Go.bits .and .i64 a2 63))) (shr .i64 a1 (IntKind.u64.wrap (Go.bits .and .i64 a2 63)))).bind fun t104 => (if t104 = true then ((drachmlaw01_tells.f k a0 (wrap64 (1 - (a1 / 9223372036854775808)))).bind fun t105 => (some t105)) else (some false))) else (some false))) else (none)) else (some false))) else (some false))
theorem drachmlaw01_WholeTells.mono : ∀ a0 a1 a2 k, LeO (drachmlaw01_WholeTells.f k a0 a1 a2) (drachmlaw01_WholeTells.f (k + 1) a0 a1 a2) := by
  intro a0 a1 a2 k
  unfold drachmlaw01_WholeTells.f
  repeat' first
      | (with_reducible exact drachmlaw01_awake.mono _)
      | (with_reducible exact drachmlaw01_tells.mono _ _ _)
      | (with_reducible exact LeO.refl _)
      | (with_reducible exact LeO.none _)
      | (with_reducible refine LeO.ite ?_ ?_)
      | (with_reducible refine LeO.bind ?_ (fun _ => ?_))
      | exact drachmlaw01_awake.mono _
      | exact drachmlaw01_tells.mono _ _ _
      | exact LeO.none _
      | refine LeO.ite ?_ ?_
      | refine LeO.bind ?_ (fun _ => ?_)
set_option maxHeartbeats 8000000 in
set_option maxRecDepth 100000 in
theorem drachmlaw01_WholeTells.calls (k : Nat) (a0 : Int) (a1 : Int) (a2 : Int) (r : Bool) (w : World) (h : drachmlaw01_WholeTells.f k a0 a1 a2 = some r) :
    Calls Try.prog 3 #[.int .i64 a0, .int .i64 a1, .int .i64 a2] w fun e w' => e = .returned (.bool r) ∧ Below w.heap.size w w' := by
  have HB := Aside0.mk (Below.refl w.heap.size w)
  have H : ((drachmlaw01_awake.f k).bind fun t101 => (if t101 = true then ((drachmlaw01_tells.f k a0 a1).bind fun t102 => (if t102 = true then (if 0 ≤ (IntKind.u64.wrap (Go.bits .and .i64 a2 63)) then ((drachmlaw01_tells.f k (shr .i64 a0 (IntKind.u64.wrap (Go.bits .and .i64 a2 63))) a1).bind fun t103 => (if t103 = true then ((drachmlaw01_tells.f k (shr .i64 a0 (IntKind.u64.wrap (Go.bits .and .i64 a2 63))) (shr .i64 a1 (IntKind.u64.wrap (Go.bits .and .i64 a2 63)))).bind fun t104 => (if t104 = true then ((drachmlaw01_tells.f k a0 (wrap64 (1 - (a1 / 9223372036854775808)))).bind fun t105 => (some t105)) else (some false))) else (some false))) else (none)) else (some false))) else (some false))) = some r := h
  clear h
  replace H := Option.bind_eq_some_iff.mp H
  obtain ⟨t101, A40, H⟩ := H
  replace H : (if t101 = true then ((drachmlaw01_tells.f k a0 a1).bind fun t102 => (if t102 = true then (if 0 ≤ (IntKind.u64.wrap (Go.bits .and .i64 a2 63)) then ((drachmlaw01_tells.f k (shr .i64 a0 (IntKind.u64.wrap (Go.bits .and .i64 a2 63))) a1).bind fun t103 => (if t103 = true then ((drachmlaw01_tells.f k (shr .i64 a0 (IntKind.u64.wrap (Go.bits .and .i64 a2 63))) (shr .i64 a1 (IntKind.u64.wrap (Go.bits .and .i64 a2 63)))).bind fun t104 => (if t104 = true then ((drachmlaw01_tells.f k a0 (wrap64 (1 - (a1 / 9223372036854775808)))).bind fun t105 => (some t105)) else (some false))) else (some false))) else (none)) else (some false))) else (some false)) = some r := H
  have A4 := Aside0.mk A40
  clear A40
  by_cases c5 : t101 = true
  · subst c5
    have H1 : ((drachmlaw01_tells.f k a0 a1).bind fun t102 => (if t102 = true then (if 0 ≤ (IntKind.u64.wrap (Go.bits .and .i64 a2 63)) then ((drachmlaw01_tells.f k (shr .i64 a0 (IntKind.u64.wrap (Go.bits .and .i64 a2 63))) a1).bind fun t103 => (if t103 = true then ((drachmlaw01_tells.f k (shr .i64 a0 (IntKind.u64.wrap (Go.bits .and .i64 a2 63))) (shr .i64 a1 (IntKind.u64.wrap (Go.bits .and .i64 a2 63)))).bind fun t104 => (if t104 = true then ((drachmlaw01_tells.f k a0 (wrap64 (1 - (a1 / 9223372036854775808)))).bind fun t105 => (some t105)) else (some false))) else (some false))) else (none)) else (some false))) = some r := by rw [if_pos rfl] at H; exact H
    clear H
    have H := H1
    clear H1
    replace H := Option.bind_eq_some_iff.mp H
    obtain ⟨t102, A60, H⟩ := H
    replace H : (if t102 = true then (if 0 ≤ (IntKind.u64.wrap (Go.bits .and .i64 a2 63)) then ((drachmlaw01_tells.f k (shr .i64 a0 (IntKind.u64.wrap (Go.bits .and .i64 a2 63))) a1).bind fun t103 => (if t103 = true then ((drachmlaw01_tells.f k (shr .i64 a0 (IntKind.u64.wrap (Go.bits .and .i64 a2 63))) (shr .i64 a1 (IntKind.u64.wrap (Go.bits .and .i64 a2 63)))).bind fun t104 => (if t104 = true then ((drachmlaw01_tells.f k a0 (wrap64 (1 - (a1 / 9223372036854775808)))).bind fun t105 => (some t105)) else (some false))) else (some false))) else (none)) else (some false)) = some r := H
    have A6 := Aside0.mk A60
    clear A60
    by_cases c7 : t102 = true
    · subst c7
      have H1 : (if 0 ≤ (IntKind.u64.wrap (Go.bits .and .i64 a2 63)) then ((drachmlaw01_tells.f k (shr .i64 a0 (IntKind.u64.wrap (Go.bits .and .i64 a2 63))) a1).bind fun t103 => (if t103 = true then ((drachmlaw01_tells.f k (shr .i64 a0 (IntKind.u64.wrap (Go.bits .and .i64 a2 63))) (shr .i64 a1 (IntKind.u64.wrap (Go.bits .and .i64 a2 63)))).bind fun t104 => (if t104 = true then ((drachmlaw01_tells.f k a0 (wrap64 (1 - (a1 / 9223372036854775808)))).bind fun t105 => (some t105)) else (some false))) else (some false))) else (none)) = some r := by rw [if_pos rfl] at H; exact H
      clear H
      have H := H1
      clear H1
      obtain ⟨ji8, hji8⟩ : ∃ j_ : Int, (IntKind.u64.wrap (Go.bits .and .i64 a2 63)) = j_ := ⟨_, rfl⟩
      replace H : (if 0 ≤ (ji8) then ((drachmlaw01_tells.f k (shr .i64 a0 (ji8)) a1).bind fun t103 => (if t103 = true then ((drachmlaw01_tells.f k (shr .i64 a0 (ji8)) (shr .i64 a1 (ji8))).bind fun t104 => (if t104 = true then ((drachmlaw01_tells.f k a0 (wrap64 (1 - (a1 / 9223372036854775808)))).bind fun t105 => (some t105)) else (some false))) else (some false))) else (none)) = some r := by first | (rw [hji8] at H; exact H) | (simp only [hji8] at H ⊢; exact H)
      (try rw [hji8] at A4)
      (try rw [hji8] at A6)
      by_cases c9 : 0 ≤ (ji8)
      · rw [if_pos c9] at H
        have c9b0 := eq_true c9
        have c9b1 : decide (0 ≤ (ji8)) = true := decide_eq_true c9
        clear c9
        obtain ⟨ji10, hji10⟩ : ∃ j_ : Int, (shr .i64 a0 (ji8)) = j_ := ⟨_, rfl⟩
        replace H : ((drachmlaw01_tells.f k (ji10) a1).bind fun t103 => (if t103 = true then ((drachmlaw01_tells.f k (ji10) (shr .i64 a1 (ji8))).bind fun t104 => (if t104 = true then ((drachmlaw01_tells.f k a0 (wrap64 (1 - (a1 / 9223372036854775808)))).bind fun t105 => (some t105)) else (some false))) else (some false))) = some r := by first | (rw [hji10] at H; exact H) | (simp only [hji10] at H ⊢; exact H)
        (try rw [hji10] at A4)
        (try rw [hji10] at A6)
        have hji10_ : (a0 / 2 ^ min (ji8).toNat 64) = ji10 := hji10
        have hji10z : (ji8) ≤ 64 → (a0 / 2 ^ (ji8).toNat) = ji10 := shr_small hji10
        replace H := Option.bind_eq_some_iff.mp H
        obtain ⟨t103, A110, H⟩ := H
        replace H : (if t103 = true then ((drachmlaw01_tells.f k (ji10) (shr .i64 a1 (ji8))).bind fun t104 => (if t104 = true then ((drachmlaw01_tells.f k a0 (wrap64 (1 - (a1 / 9223372036854775808)))).bind fun t105 => (some t105)) else (some false))) else (some false)) = some r := H
        have A11 := Aside0.mk A110
        clear A110
        by_cases c12 : t103 = true
        · subst c12
          have H1 : ((drachmlaw01_tells.f k (ji10) (shr .i64 a1 (ji8))).bind fun t104 => (if t104 = true then ((drachmlaw01_tells.f k a0 (wrap64 (1 - (a1 / 9223372036854775808)))).bind fun t105 => (some t105)) else (some false))) = some r := by rw [if_pos rfl] at H; exact H
          clear H
          have H := H1
          clear H1
          have c13b0 := eq_true (of_decide_eq_true (by first | (with_reducible assumption) | assumption) : 0 ≤ (ji8))
          have c14b0 := eq_true (of_decide_eq_true (by first | (with_reducible assumption) | assumption) : 0 ≤ (ji8))
          obtain ⟨ji15, hji15⟩ : ∃ j_ : Int, (shr .i64 a1 (ji8)) = j_ := ⟨_, rfl⟩
          replace H : ((drachmlaw01_tells.f k (ji10) (ji15)).bind fun t104 => (if t104 = true then ((drachmlaw01_tells.f k a0 (wrap64 (1 - (a1 / 9223372036854775808)))).bind fun t105 => (some t105)) else (some false))) = some r := by first | (rw [hji15] at H; exact H) | (simp only [hji15] at H ⊢; exact H)
          (try rw [hji15] at A4)
          (try rw [hji15] at A6)
          (try rw [hji15] at A11)
          have hji15_ : (a1 / 2 ^ min (ji8).toNat 64) = ji15 := hji15
          have hji15z : (ji8) ≤ 64 → (a1 / 2 ^ (ji8).toNat) = ji15 := shr_small hji15
          replace H := Option.bind_eq_some_iff.mp H
          obtain ⟨t104, A160, H⟩ := H
          replace H : (if t104 = true then ((drachmlaw01_tells.f k a0 (wrap64 (1 - (a1 / 9223372036854775808)))).bind fun t105 => (some t105)) else (some false)) = some r := H
          have A16 := Aside0.mk A160
          clear A160
          by_cases c17 : t104 = true
          · subst c17
            have H1 : ((drachmlaw01_tells.f k a0 (wrap64 (1 - (a1 / 9223372036854775808)))).bind fun t105 => (some t105)) = some r := by rw [if_pos rfl] at H; exact H
            clear H
            have H := H1
            clear H1
            replace H := Option.bind_eq_some_iff.mp H
            obtain ⟨t105, A180, H⟩ := H
            replace H : (some t105) = some r := H
            have A18 := Aside0.mk A180
            clear A180
            obtain rfl := Option.some.inj H
            go_enter Try.func3, Try.ntmps3
            go_wp2_with (first | ((with_reducible refine gate_callee (f := 10) rfl ?_); refine goesL_ (some 9) rfl rfl Try.func10 (by kernel_rfl) rfl #[] rfl (by (try simp only [List.map_toArray, List.map_cons, List.map_nil]); first | done | rfl | (simp only [List.length_drop, List.length_take]; rfl)) ?_; (with_reducible refine (drachmlaw01_awake.calls k  true _ A4.out).mono ?_); rintro e w19 ⟨rfl, hb⟩; refine ⟨_, rfl, ?_⟩; have n0_ := Aside0.mk (below_step (by repeat (first | (with_reducible first | exact HB.out | apply below_alloc | apply pw_below_drewN | apply below_drew1) | exact HB.out)) hb); clear HB; have HB := n0_; clear n0_; (try clear hb); (try clear hb2); (try clear hk); (try clear hi)) | (go_at_call 11; (with_reducible refine (drachmlaw01_tells.calls k a0 a1 true _ A6.out).mono ?_); rintro e w20 ⟨rfl, hb⟩; have n0_ := Aside0.mk (below_step (by repeat (first | (with_reducible first | exact HB.out | apply below_alloc | apply pw_below_drewN | apply below_drew1) | exact HB.out)) hb); clear HB; have HB := n0_; clear n0_; (try clear hb); (try clear hb2); (try clear hk); (try clear hi)) | (go_at_call 11; (with_reducible refine (drachmlaw01_tells.calls k ji10 a1 true _ A11.out).mono ?_); rintro e w21 ⟨rfl, hb⟩; have n0_ := Aside0.mk (below_step (by repeat (first | (with_reducible first | exact HB.out | apply below_alloc | apply pw_below_drewN | apply below_drew1) | exact HB.out)) hb); clear HB; have HB := n0_; clear n0_; (try clear hb); (try clear hb2); (try clear hk); (try clear hi)) | (go_at_call 11; (with_reducible refine (drachmlaw01_tells.calls k ji10 ji15 true _ A16.out).mono ?_); rintro e w22 ⟨rfl, hb⟩; have n0_ := Aside0.mk (below_step (by repeat (first | (with_reducible first | exact HB.out | apply below_alloc | apply pw_below_drewN | apply below_drew1) | exact HB.out)) hb); clear HB; have HB := n0_; clear n0_; (try clear hb); (try clear hb2); (try clear hk); (try clear hi)) | (go_at_call 11; (with_reducible refine (drachmlaw01_tells.calls k a0 (wrap64 (1 - (a1 / 9223372036854775808))) t105 _ A18.out).mono ?_); rintro e w23 ⟨rfl, hb⟩; have n0_ := Aside0.mk (below_step (by repeat (first | (with_reducible first | exact HB.out | apply below_alloc | apply pw_below_drewN | apply below_drew1) | exact HB.out)) hb); clear HB; have HB := n0_; clear n0_; (try clear hb); (try clear hb2); (try clear hk); (try clear hi)))
            go_ret
            exact ⟨by first | rfl | (simp [errW_none, errW_some] <;> rfl) | (simp only [← hji8, ← hji10, ← hji15]; first | rfl | (simp [errW_none, errW_some] <;> rfl)) | (simp [*, errW_none, errW_some] <;> rfl), by repeat (first | (with_reducible first | exact HB.out | apply below_alloc | apply pw_below_drewN | apply below_drew1) | exact HB.out)⟩
          · replace c17 := Bool.eq_false_iff.mpr c17
            subst c17
            have H1 : (some false) = some r := by rw [if_neg (show ¬ (false = true) by decide)] at H; exact H
            clear H
            have H := H1
            clear H1
            obtain rfl := Option.some.inj H
            go_enter Try.func3, Try.ntmps3
            go_wp2_with (first | ((with_reducible refine gate_callee (f := 10) rfl ?_); refine goesL_ (some 9) rfl rfl Try.func10 (by kernel_rfl) rfl #[] rfl (by (try simp only [List.map_toArray, List.map_cons, List.map_nil]); first | done | rfl | (simp only [List.length_drop, List.length_take]; rfl)) ?_; (with_reducible refine (drachmlaw01_awake.calls k  true _ A4.out).mono ?_); rintro e w24 ⟨rfl, hb⟩; refine ⟨_, rfl, ?_⟩; have n0_ := Aside0.mk (below_step (by repeat (first | (with_reducible first | exact HB.out | apply below_alloc | apply pw_below_drewN | apply below_drew1) | exact HB.out)) hb); clear HB; have HB := n0_; clear n0_; (try clear hb); (try clear hb2); (try clear hk); (try clear hi)) | (go_at_call 11; (with_reducible refine (drachmlaw01_tells.calls k a0 a1 true _ A6.out).mono ?_); rintro e w25 ⟨rfl, hb⟩; have n0_ := Aside0.mk (below_step (by repeat (first | (with_reducible first | exact HB.out | apply below_alloc | apply pw_below_drewN | apply below_drew1) | exact HB.out)) hb); clear HB; have HB := n0_; clear n0_; (try clear hb); (try clear hb2); (try clear hk); (try clear hi)) | (go_at_call 11; (with_reducible refine (drachmlaw01_tells.calls k ji10 a1 true _ A11.out).mono ?_); rintro e w26 ⟨rfl, hb⟩; have n0_ := Aside0.mk (below_step (by repeat (first | (with_reducible first | exact HB.out | apply below_alloc | apply pw_below_drewN | apply below_drew1) | exact HB.out)) hb); clear HB; have HB := n0_; clear n0_; (try clear hb); (try clear hb2); (try clear hk); (try clear hi)) | (go_at_call 11; (with_reducible refine (drachmlaw01_tells.calls k ji10 ji15 false _ A16.out).mono ?_); rintro e w27 ⟨rfl, hb⟩; have n0_ := Aside0.mk (below_step (by repeat (first | (with_reducible first | exact HB.out | apply below_alloc | apply pw_below_drewN | apply below_drew1) | exact HB.out)) hb); clear HB; have HB := n0_; clear n0_; (try clear hb); (try clear hb2); (try clear hk); (try clear hi)))
            go_ret
            exact ⟨by first | rfl | (simp [errW_none, errW_some] <;> rfl) | (simp only [← hji8, ← hji10, ← hji15]; first | rfl | (simp [errW_none, errW_some] <;> rfl)) | (simp [*, errW_none, errW_some] <;> rfl), by repeat (first | (with_reducible first | exact HB.out | apply below_alloc | apply pw_below_drewN | apply below_drew1) | exact HB.out)⟩
        · replace c12 := Bool.eq_false_iff.mpr c12
          subst c12
          have H1 : (some false) = some r := by rw [if_neg (show ¬ (false = true) by decide)] at H; exact H
          clear H
          have H := H1
          clear H1
          obtain rfl := Option.some.inj H
          go_enter Try.func3, Try.ntmps3
          go_wp2_with (first | ((with_reducible refine gate_callee (f := 10) rfl ?_); refine goesL_ (some 9) rfl rfl Try.func10 (by kernel_rfl) rfl #[] rfl (by (try simp only [List.map_toArray, List.map_cons, List.map_nil]); first | done | rfl | (simp only [List.length_drop, List.length_take]; rfl)) ?_; (with_reducible refine (drachmlaw01_awake.calls k  true _ A4.out).mono ?_); rintro e w28 ⟨rfl, hb⟩; refine ⟨_, rfl, ?_⟩; have n0_ := Aside0.mk (below_step (by repeat (first | (with_reducible first | exact HB.out | apply below_alloc | apply pw_below_drewN | apply below_drew1) | exact HB.out)) hb); clear HB; have HB := n0_; clear n0_; (try clear hb); (try clear hb2); (try clear hk); (try clear hi)) | (go_at_call 11; (with_reducible refine (drachmlaw01_tells.calls k a0 a1 true _ A6.out).mono ?_); rintro e w29 ⟨rfl, hb⟩; have n0_ := Aside0.mk (below_step (by repeat (first | (with_reducible first | exact HB.out | apply below_alloc | apply pw_below_drewN | apply below_drew1) | exact HB.out)) hb); clear HB; have HB := n0_; clear n0_; (try clear hb); (try clear hb2); (try clear hk); (try clear hi)) | (go_at_call 11; (with_reducible refine (drachmlaw01_tells.calls k ji10 a1 false _ A11.out).mono ?_); rintro e w30 ⟨rfl, hb⟩; have n0_ := Aside0.mk (below_step (by repeat (first | (with_reducible first | exact HB.out | apply below_alloc | apply pw_below_drewN | apply below_drew1) | exact HB.out)) hb); clear HB; have HB := n0_; clear n0_; (try clear hb); (try clear hb2); (try clear hk); (try clear hi)))
          go_ret
          exact ⟨by first | rfl | (simp [errW_none, errW_some] <;> rfl) | (simp only [← hji8, ← hji10]; first | rfl | (simp [errW_none, errW_some] <;> rfl)) | (simp [*, errW_none, errW_some] <;> rfl), by repeat (first | (with_reducible first | exact HB.out | apply below_alloc | apply pw_below_drewN | apply below_drew1) | exact HB.out)⟩
      · rw [if_neg c9] at H
        exact absurd H (by simp)
    · replace c7 := Bool.eq_false_iff.mpr c7
      subst c7
      have H1 : (some false) = some r := by rw [if_neg (show ¬ (false = true) by decide)] at H; exact H
      clear H
      have H := H1
      clear H1
      obtain rfl := Option.some.inj H
      go_enter Try.func3, Try.ntmps3
      go_wp2_with (first | ((with_reducible refine gate_callee (f := 10) rfl ?_); refine goesL_ (some 9) rfl rfl Try.func10 (by kernel_rfl) rfl #[] rfl (by (try simp only [List.map_toArray, List.map_cons, List.map_nil]); first | done | rfl | (simp only [List.length_drop, List.length_take]; rfl)) ?_; (with_reducible refine (drachmlaw01_awake.calls k  true _ A4.out).mono ?_); rintro e w31 ⟨rfl, hb⟩; refine ⟨_, rfl, ?_⟩; have n0_ := Aside0.mk (below_step (by repeat (first | (with_reducible first | exact HB.out | apply below_alloc | apply pw_below_drewN | apply below_drew1) | exact HB.out)) hb); clear HB; have HB := n0_; clear n0_; (try clear hb); (try clear hb2); (try clear hk); (try clear hi)) | (go_at_call 11; (with_reducible refine (drachmlaw01_tells.calls k a0 a1 false _ A6.out).mono ?_); rintro e w32 ⟨rfl, hb⟩; have n0_ := Aside0.mk (below_step (by repeat (first | (with_reducible first | exact HB.out | apply below_alloc | apply pw_below_drewN | apply below_drew1) | exact HB.out)) hb); clear HB; have HB := n0_; clear n0_; (try clear hb); (try clear hb2); (try clear hk); (try clear hi)))
      go_ret
      exact ⟨by first | rfl | (simp [errW_none, errW_some] <;> rfl) | (simp [*, errW_none, errW_some] <;> rfl), by repeat (first | (with_reducible first | exact HB.out | apply below_alloc | apply pw_below_drewN | apply below_drew1) | exact HB.out)⟩
  · replace c5 := Bool.eq_false_iff.mpr c5
    subst c5
    have H1 : (some false) = some r := by rw [if_neg (show ¬ (false = true) by decide)] at H; exact H
    clear H
    have H := H1
    clear H1
    obtain rfl := Option.some.inj H
    go_enter Try.func3, Try.ntmps3
    go_wp2_with (first | ((with_reducible refine gate_callee (f := 10) rfl ?_); refine goesL_ (some 9) rfl rfl Try.func10 (by kernel_rfl) rfl #[] rfl (by (try simp only [List.map_toArray, List.map_cons, List.map_nil]); first | done | rfl | (simp only [List.length_drop, List.length_take]; rfl)) ?_; (with_reducible refine (drachmlaw01_awake.calls k  false _ A4.out).mono ?_); rintro e w33 ⟨rfl, hb⟩; refine ⟨_, rfl, ?_⟩; have n0_ := Aside0.mk (below_step (by repeat (first | (with_reducible first | exact HB.out | apply below_alloc | apply pw_below_drewN | apply below_drew1) | exact HB.out)) hb); clear HB; have HB := n0_; clear n0_; (try clear hb); (try clear hb2); (try clear hk); (try clear hi)))
    go_ret
    exact ⟨by first | rfl | (simp [errW_none, errW_some] <;> rfl) | (simp [*, errW_none, errW_some] <;> rfl), by repeat (first | (with_reducible first | exact HB.out | apply below_alloc | apply pw_below_drewN | apply below_drew1) | exact HB.out)⟩

/-- THE ONE PURE STATEMENT of drachmlaw01_WholeTells: yours. -/
def drachmlaw01_WholeTells.Pure : Prop := ∀ (a0 : Int) (a1 : Int) (a2 : Int), (Lit.int .i64 a0).wf = true → (Lit.int .i64 a1).wf = true → (Lit.int .i64 a2).wf = true → ∃ k, drachmlaw01_WholeTells.f k a0 a1 a2 = some true
theorem drachmlaw01_WholeTells.walk (P : drachmlaw01_WholeTells.Pure) (a0 : Int) (a1 : Int) (a2 : Int) (w : World) (w0 : (Lit.int .i64 a0).wf = true) (w1 : (Lit.int .i64 a1).wf = true) (w2 : (Lit.int .i64 a2).wf = true) :
    Calls Try.prog 3 #[.int .i64 a0, .int .i64 a1, .int .i64 a2] w fun e w' => e = .returned (.bool true) ∧ Below w.heap.size w w' := by
  obtain ⟨k, h⟩ := P a0 a1 a2 w0 w1 w2
  refine (drachmlaw01_WholeTells.calls k a0 a1 a2 true w h).mono ?_
  rintro e w' ⟨rfl, hd⟩
  exact ⟨rfl, hd⟩

end Go.Proofs.Ytbfajaeghiodnaa.PWholeTells
