/- Printed by a program of this session (wip/tools/prt.py) out of the translation: plain functions, and that the calls come to just them. No conditions beyond those that stand in each theorem. -/
import Derived.Test.YtgcaelopcdpkgaaDoorGlob
import Derived.Test.YtgcaelopcdpkgaaDoorPStyleTellsx0
import Derived.Test.YtgcaelopcdpkgaaDoorPStyleTellsx2
namespace Go.Proofs.YtgcaelopcdpkgaaDoor.PStyleTells
open Go.RowKit Go.Proofs.YtgcaelopcdpkgaaDoorW.PrintWords Go.Proofs.YtgcaelopcdpkgaaDoorW.PrintLast Go.Proofs.YtgcaelopcdpkgaaDoorW.PrintMore Go.Proofs.YtgcaelopcdpkgaaDoor.PBase
attribute [local go_sem] max2_int min2_int max_two min_two max_three min_three max_four min_four   -- for this text's walks alone
set_option linter.unusedVariables false
set_option linter.unusedSimpArgs false

/-! ### drachmlaw07_StyleTells: function 5 -/
def drachmlaw07_StyleTells.f (k : Nat) (a0 : Int) (a1 : Int) (a2 : ByteArray) : Option (Bool) := (drachmlaw07_awake.f k).bind fun t127 => (if t127 = true then ((drachmlaw07_short.f a2).bind fun t128 => ((drachmlaw07_tells.f k a0 a1 t128).bind fun t129 => (if t129 = true then ((drachmlaw07_rest.f a0 8).bind fun t130 => ((drachmlaw07_tells.f k (wrap64 (t130 - 1)) a1 t128).bind fun t131 => (some t131))) else (none)))) else (none))
theorem drachmlaw07_StyleTells.mono : ∀ a0 a1 a2 k, LeO (drachmlaw07_StyleTells.f k a0 a1 a2) (drachmlaw07_StyleTells.f (k + 1) a0 a1 a2) := by
  intro a0 a1 a2 k
  unfold drachmlaw07_StyleTells.f
  repeat' first
      | (with_reducible exact drachmlaw07_awake.mono _)
      | (with_reducible exact drachmlaw07_tells.mono _ _ _ _)
      | (with_reducible exact LeO.refl _)
      | (with_reducible exact LeO.none _)
      | (with_reducible refine LeO.ite ?_ ?_)
      | (with_reducible refine LeO.bind ?_ (fun _ => ?_))
      | exact drachmlaw07_awake.mono _
      | exact drachmlaw07_tells.mono _ _ _ _
      | exact LeO.none _
      | refine LeO.ite ?_ ?_
      | refine LeO.bind ?_ (fun _ => ?_)
set_option maxHeartbeats 8000000 in
set_option maxRecDepth 100000 in
theorem drachmlaw07_StyleTells.calls (k : Nat) (a0 : Int) (a1 : Int) (a2 : ByteArray) (r : Bool) (w : World) (hG : Glob [0] w) (h : drachmlaw07_StyleTells.f k a0 a1 a2 = some r) :
    Calls Tryd.prog 5 #[.int .i64 a0, .int .u8 a1, .string a2] w fun e w' => e = .returned (.bool r) ∧ Below w.heap.size w w' := by
  have HB := Aside0.mk (Below.refl w.heap.size w)
  have H : ((drachmlaw07_awake.f k).bind fun t127 => (if t127 = true then ((drachmlaw07_short.f a2).bind fun t128 => ((drachmlaw07_tells.f k a0 a1 t128).bind fun t129 => (if t129 = true then ((drachmlaw07_rest.f a0 8).bind fun t130 => ((drachmlaw07_tells.f k (wrap64 (t130 - 1)) a1 t128).bind fun t131 => (some t131))) else (none)))) else (none))) = some r := h
  clear h
  replace H := Option.bind_eq_some_iff.mp H
  obtain ⟨t127, A40, H⟩ := H
  replace H : (if t127 = true then ((drachmlaw07_short.f a2).bind fun t128 => ((drachmlaw07_tells.f k a0 a1 t128).bind fun t129 => (if t129 = true then ((drachmlaw07_rest.f a0 8).bind fun t130 => ((drachmlaw07_tells.f k (wrap64 (t130 - 1)) a1 t128).bind fun t131 => (some t131))) else (none)))) else (none)) = some r := H
  have A4 := Aside0.mk A40
  clear A40
  by_cases c5 : t127 = true
  · subst c5
    have H1 : ((drachmlaw07_short.f a2).bind fun t128 => ((drachmlaw07_tells.f k a0 a1 t128).bind fun t129 => (if t129 = true then ((drachmlaw07_rest.f a0 8).bind fun t130 => ((drachmlaw07_tells.f k (wrap64 (t130 - 1)) a1 t128).bind fun t131 => (some t131))) else (none)))) = some r := by rw [if_pos rfl] at H; exact H
    clear H
    have H := H1
    clear H1
    replace H := Option.bind_eq_some_iff.mp H
    obtain ⟨t128, A60, H⟩ := H
    replace H : ((drachmlaw07_tells.f k a0 a1 t128).bind fun t129 => (if t129 = true then ((drachmlaw07_rest.f a0 8).bind fun t130 => ((drachmlaw07_tells.f k (wrap64 (t130 - 1)) a1 t128).bind fun t131 => (some t131))) else (none))) = some r := H
    have A6 := Aside0.mk A60
    clear A60
    replace H := Option.bind_eq_some_iff.mp H
    obtain ⟨t129, A70, H⟩ := H
    replace H : (if t129 = true then ((drachmlaw07_rest.f a0 8).bind fun t130 => ((drachmlaw07_tells.f k (wrap64 (t130 - 1)) a1 t128).bind fun t131 => (some t131))) else (none)) = some r := H
    have A7 := Aside0.mk A70
    clear A70
    by_cases c8 : t129 = true
    · subst c8
      have H1 : ((drachmlaw07_rest.f a0 8).bind fun t130 => ((drachmlaw07_tells.f k (wrap64 (t130 - 1)) a1 t128).bind fun t131 => (some t131))) = some r := by rw [if_pos rfl] at H; exact H
      clear H
      have H := H1
      clear H1
      replace H := Option.bind_eq_some_iff.mp H
      obtain ⟨t130, A90, H⟩ := H
      replace H : ((drachmlaw07_tells.f k (wrap64 (t130 - 1)) a1 t128).bind fun t131 => (some t131)) = some r := H
      have A9 := Aside0.mk A90
      clear A90
      replace H := Option.bind_eq_some_iff.mp H
      obtain ⟨t131, A100, H⟩ := H
      replace H : (some t131) = some r := H
      have A10 := Aside0.mk A100
      clear A100
      obtain rfl := Option.some.inj H
      go_enter Tryd.func5, Tryd.ntmps5
      go_wp2_with (first | ((with_reducible refine gate_callee (f := 7) rfl ?_); refine goesL_ (some 8) rfl rfl Tryd.func7 (by kernel_rfl) rfl #[] rfl (by (try simp only [List.map_toArray, List.map_cons, List.map_nil]); first | done | rfl | (simp only [List.length_drop, List.length_take]; rfl)) ?_; (with_reducible refine (drachmlaw07_awake.calls k  true _ (Glob.use hG (by decide) (by repeat (first | (with_reducible first | exact HB.out | apply below_alloc | apply pw_below_drewN | apply below_drew1) | exact HB.out))) A4.out).mono ?_); rintro e w11 ⟨rfl, hb⟩; refine ⟨_, rfl, ?_⟩; have n0_ := Aside0.mk (below_step (by repeat (first | (with_reducible first | exact HB.out | apply below_alloc | apply pw_below_drewN | apply below_drew1) | exact HB.out)) hb); clear HB; have HB := n0_; clear n0_; (try clear hb); (try clear hb2); (try clear hk); (try clear hi)) | (go_at_call 11; (with_reducible refine (drachmlaw07_short.calls a2 t128 _ A6.out).mono ?_); rintro e w' ⟨rfl, ⟨nd, rfl⟩⟩) | (go_at_call 13; (with_reducible refine (drachmlaw07_tells.calls k a0 a1 t128 true _ (Glob.use hG (by decide) (by repeat (first | (with_reducible first | exact HB.out | apply below_alloc | apply pw_below_drewN | apply below_drew1) | exact HB.out))) A7.out).mono ?_); rintro e w12 ⟨rfl, hb⟩; have n0_ := Aside0.mk (below_step (by repeat (first | (with_reducible first | exact HB.out | apply below_alloc | apply pw_below_drewN | apply below_drew1) | exact HB.out)) hb); clear HB; have HB := n0_; clear n0_; (try clear hb); (try clear hb2); (try clear hk); (try clear hi)) | (go_at_call 8; (with_reducible refine (drachmlaw07_rest.calls a0 8 t130 _ A9.out).mono ?_); rintro e w' ⟨rfl, ⟨nd, rfl⟩⟩) | (go_at_call 13; (with_reducible refine (drachmlaw07_tells.calls k (wrap64 (t130 - 1)) a1 t128 t131 _ (Glob.use hG (by decide) (by repeat (first | (with_reducible first | exact HB.out | apply below_alloc | apply pw_below_drewN | apply below_drew1) | exact HB.out))) A10.out).mono ?_); rintro e w13 ⟨rfl, hb⟩; have n0_ := Aside0.mk (below_step (by repeat (first | (with_reducible first | exact HB.out | apply below_alloc | apply pw_below_drewN | apply below_drew1) | exact HB.out)) hb); clear HB; have HB := n0_; clear n0_; (try clear hb); (try clear hb2); (try clear hk); (try clear hi)))
      go_ret
      exact ⟨by first | rfl | (simp [errW_none, errW_some] <;> rfl) | (simp [*, errW_none, errW_some] <;> rfl), by repeat (first | (with_reducible first | exact HB.out | apply below_alloc | apply pw_below_drewN | apply below_drew1) | exact HB.out)⟩
    · replace c8 := Bool.eq_false_iff.mpr c8
      subst c8
      have H1 : (none) = some r := by rw [if_neg (show ¬ (false = true) by decide)] at H; exact H
      clear H
      have H := H1
      clear H1
      exact absurd H (by simp)
  · replace c5 := Bool.eq_false_iff.mpr c5
    subst c5
    have H1 : (none) = some r := by rw [if_neg (show ¬ (false = true) by decide)] at H; exact H
    clear H
    have H := H1
    clear H1
    exact absurd H (by simp)

/-- THE ONE PURE STATEMENT of drachmlaw07_StyleTells: yours. -/
def drachmlaw07_StyleTells.Pure : Prop := ∀ (a0 : Int) (a1 : Int) (a2 : ByteArray), (Lit.int .i64 a0).wf = true → (Lit.int .u8 a1).wf = true → a2.size ≤ 140737488351232 → ∃ k, drachmlaw07_StyleTells.f k a0 a1 a2 = some true
theorem drachmlaw07_StyleTells.walk (P : drachmlaw07_StyleTells.Pure) (a0 : Int) (a1 : Int) (a2 : ByteArray) (w : World) (hG : Glob [0] w) (w0 : (Lit.int .i64 a0).wf = true) (w1 : (Lit.int .u8 a1).wf = true) (w2 : a2.size ≤ 140737488351232) :
    Calls Tryd.prog 5 #[.int .i64 a0, .int .u8 a1, .string a2] w fun e w' => e = .returned (.bool true) ∧ Below w.heap.size w w' := by
  obtain ⟨k, h⟩ := P a0 a1 a2 w0 w1 w2
  refine (drachmlaw07_StyleTells.calls k a0 a1 a2 true w hG h).mono ?_
  rintro e w' ⟨rfl, hd⟩
  exact ⟨rfl, hd⟩

end Go.Proofs.YtgcaelopcdpkgaaDoor.PStyleTells
