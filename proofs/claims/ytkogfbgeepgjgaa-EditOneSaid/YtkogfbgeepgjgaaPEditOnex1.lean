/- Printed by a program of this session (wip/tools/prt.py) out of the translation: plain functions, and that the calls come to just them. No conditions beyond those that stand in each theorem. -/
import Derived.Test.YtkogfbgeepgjgaaPEditOnex0
namespace Go.Proofs.Ytkogfbgeepgjgaa.PEditOne
open Go.RowKit Go.Proofs.YtkogfbgeepgjgaaW.PrintWords Go.Proofs.YtkogfbgeepgjgaaW.PrintLast Go.Proofs.YtkogfbgeepgjgaaW.PrintMore Go.Proofs.Ytkogfbgeepgjgaa.PBase
attribute [local go_sem] max2_int min2_int max_two min_two max_three min_three max_four min_four   -- for this text's walks alone
set_option linter.unusedVariables false
set_option linter.unusedSimpArgs false

/-! ### drachmlaw16_awake: function 9 -/
def drachmlaw16_awake.f  : Option (Bool) := (edit_Distance.f (⟨#[109, 109, 111, 108]⟩ : ByteArray) (⟨#[109, 111, 108, 47, 108]⟩ : ByteArray)).bind fun t101 => (some (t101 == 3))
set_option maxHeartbeats 8000000 in
set_option maxRecDepth 100000 in
theorem drachmlaw16_awake.calls  (r : Bool) (w : World) (h : drachmlaw16_awake.f  = some r) :
    Calls Try.prog 9 #[] w fun e w' => e = .returned (.bool r) ∧ Below w.heap.size w w' := by
  have HB := Aside0.mk (Below.refl w.heap.size w)
  have H : ((edit_Distance.f (⟨#[109, 109, 111, 108]⟩ : ByteArray) (⟨#[109, 111, 108, 47, 108]⟩ : ByteArray)).bind fun t101 => (some (t101 == 3))) = some r := h
  clear h
  replace H := Option.bind_eq_some_iff.mp H
  obtain ⟨t101, A10, H⟩ := H
  replace H : (some (t101 == 3)) = some r := H
  have A1 := Aside0.mk A10
  clear A10
  obtain rfl := Option.some.inj H
  go_enter Try.func9, Try.ntmps9
  go_wp2_with (first | ((with_reducible refine gate_callee (f := 14) rfl ?_); refine goesL_ (some 1) rfl rfl Try.func14 (by kernel_rfl) rfl #[.string (⟨#[109, 109, 111, 108]⟩ : ByteArray), .string (⟨#[109, 111, 108, 47, 108]⟩ : ByteArray)] rfl (by (try simp only [List.map_toArray, List.map_cons, List.map_nil]); first | done | rfl | (simp only [List.length_drop, List.length_take]; rfl)) ?_; (with_reducible refine (edit_Distance.calls (⟨#[109, 109, 111, 108]⟩ : ByteArray) (⟨#[109, 111, 108, 47, 108]⟩ : ByteArray) t101 _ A1.out).mono ?_); rintro e w2 ⟨rfl, hb⟩; refine ⟨_, rfl, ?_⟩; have n0_ := Aside0.mk (below_step (by repeat (first | (with_reducible first | exact HB.out | apply below_alloc | apply pw_below_drewN | apply below_drew1) | exact HB.out)) hb); clear HB; have HB := n0_; clear n0_; (try clear hb); (try clear hb2); (try clear hk); (try clear hi)))
  go_ret
  exact ⟨by first | rfl | (simp [errW_none, errW_some] <;> rfl) | (simp [*, errW_none, errW_some] <;> rfl), by repeat (first | (with_reducible first | exact HB.out | apply below_alloc | apply pw_below_drewN | apply below_drew1) | exact HB.out)⟩

end Go.Proofs.Ytkogfbgeepgjgaa.PEditOne
