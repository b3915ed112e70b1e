/- Printed by a program of this session (wip/tools/prt.py) out of the translation: plain functions, and that the calls come to just them. No conditions beyond those that stand in each theorem. -/
import Derived.Test.YtkogfbgeepgjgaaRows
import Derived.Test.YtkogfbgeepgjgaaPEditOnex2
import Derived.Test.YtkogfbgeepgjgaaPureEditOne
import Derived.WalkKit
import Derived.ProofKit
import Derived.OpenShut
import Derived.ShutString
import Derived.ChangeOld
import Derived.Below
import Derived.SizedLaws
import Derived.Test.YtkogfbgeepgjgaaWSized
import Derived.Test.YtkogfbgeepgjgaaFlat
namespace Go.Proofs.Ytkogfbgeepgjgaa.editOne
open Go.ChangeShapes Go.WideShapes Go.ChangeAt Go.RowKit
open Go.ChangeMaps (open_string shut_string)
set_option linter.unusedVariables false
theorem own : ownKnob Try.prog.godebug = none := by kernel_rfl
theorem laidOut : laidOutB Try.prog = true := by kernel_rfl
def IsRow (k : IntKind) (w : World) (a : Option Addr) (len cap : Nat) (zs : List Int) : Prop :=
  (a = none ∧ len = 0 ∧ cap = 0 ∧ zs = []) ∨
  ∃ x, a = some x ∧ len ≤ cap ∧ cap ≤ maxLen ∧ zs.length = cap ∧ (∀ i, i < zs.length → w.cell? (x.add i) = some (.int k (zs.getD i 0))) ∧ ∀ n ∈ zs, (Lit.int k n).wf = true
set_option maxRecDepth 100000 in
theorem lifted (os : Os) (started : os.Started) (H : Type) (enc : TypeId × Value → H) :
    ReturnsInHanded {} Try.checked os 5 .any (Rows.editOneSpec.pre6 enc Try.prog Try.f5 Rows.editOneRow.domain false) (Rows.editOneSpec.post enc Try.prog Try.f5 false true false false) := by
  refine returnsInHanded_of_change_sized (C := Try.checked) own started (by kernel_rfl) Try.func5
    (ChangeSpec.witness6 (enc := enc) (C := Try.checked) false ⟨#[], #[.agg #[.string ByteArray.empty, .string ByteArray.empty], .agg #[.int .i64 0, .int .i64 0], .int .u8 0], []⟩ 8 (by kernel_rfl) (by kernel_rfl) (by kernel_rfl) (by kernel_rfl)) ?_
  intro W base args ds gs before hval0 hW hcnd hsz0 _
  have hsz : (DataW.weightsEach Try.prog (Try.f5.params.toList ++ Rows.editOneSpec.plain.varTypes Try.prog) (ds ++ gs)).all (· ≤ reachBytes) = true := hsz0
  have hval : ∀ (j : Nat) t v, Try.f5.params[j]? = some t → args[j]? = some v → Value.okWide Try.prog W .any base t v := hval0
  have hW' := hW
  obtain ⟨p, q, hA0, hV, rfl, hfz, hnd⟩ := hW
  have hA : DataW.TrodAll enc Try.prog W 0 (fun _ => true) true Try.f5.params.toList args.toList ds p := hA0
  rw [Try.params5] at hA hval hsz
  obtain ⟨v0, vs0, d0, ds0, p0, q0, hargs, rfl, rfl, h0, r0⟩ := trodAll_cons hA
  obtain ⟨v1, vs1, d1, ds1, p1, q1, rfl, rfl, rfl, h1, r1⟩ := trodAll_cons r0
  obtain ⟨v2, vs2, d2, ds2, p2, q2, rfl, rfl, rfl, h2, r2⟩ := trodAll_cons r1
  obtain ⟨rfl, rfl, rfl⟩ := trodAll_nil r2
  obtain rfl : args = #[v0, v1, v2] := by cases args; simp_all
  obtain ⟨rfl, rfl⟩ := trodVars_none hV
  have k0 := h0
  obtain ⟨cs0, rfl, ho0, rfl⟩ := Flat.open_flat (f := 8) (ks := [Flat.LK.s, Flat.LK.s]) (by kernel_rfl) (Flat.agg_array Try.underlying30 (hval 0 30 v0 rfl rfl)) h0
  obtain ⟨a0_0, rx0_0, ex0, w0_0, g0_0⟩ := Flat.allOk_s ho0
  obtain ⟨a0_1, rx0_1, rfl, w0_1, g0_1⟩ := Flat.allOk_s g0_0
  obtain rfl := Flat.allOk_nil g0_1
  obtain rfl : cs0 = #[.string a0_0, .string a0_1] := Array.ext' ex0
  have k1 := h1
  obtain ⟨cs1, rfl, ho1, rfl⟩ := Flat.open_flat (f := 8) (ks := [Flat.LK.i .i64, Flat.LK.i .i64]) (by kernel_rfl) (Flat.agg_array Try.underlying31 (hval 1 31 v1 rfl rfl)) h1
  obtain ⟨a1_0, rx1_0, ex1, w1_0, g1_0⟩ := Flat.allOk_i ho1
  obtain ⟨a1_1, rx1_1, rfl, w1_1, g1_1⟩ := Flat.allOk_i g1_0
  obtain rfl := Flat.allOk_nil g1_1
  obtain rfl : cs1 = #[.int .i64 a1_0, .int .i64 a1_1] := Array.ext' ex1
  obtain ⟨a2, rfl, rfl, rfl, w2⟩ := open_int Try.underlying5 (hval 2 5 v2 rfl rfl) h2
  clear hA0 hval0 hsz0 hsz
  refine (PEditOne.drachmlaw16_EditOne.walk Pure.EditOne a0_0 a0_1 a1_0 a1_1 a2 W w0_0 w0_1 w1_0 w1_1 w2).mono fun e W' ⟨he, bel⟩ => ?_
  subst he
  exact ⟨_, rfl, _, _, _, [], _, [], hW', trodAll_mk1 (shut_bool Try.underlying4 _), (trodAll_cons_mk (Below.trod laidOut (by kernel_rfl) (of_decide_eq_true (by kernel_rfl)) k0 bel (fun _ h => by cases h)) (trodAll_cons_mk (Below.trod laidOut (by kernel_rfl) (of_decide_eq_true (by kernel_rfl)) k1 bel (fun _ h => by cases h)) (trodAll_cons_mk (shut_int Try.underlying5 w2) trodAll_mk0))), rfl, bel.frame _, fun h => by cases h⟩
theorem over : Rows.editOneRow.holds Try.pinned (OpenSpec.ofChange Rows.editOneSpec) :=
  OpenClaim.holds_of_wide 5 Try.f5 rfl rfl rfl rfl rfl rfl rfl ⟨rfl, rfl, rfl, rfl, rfl⟩ rfl rfl rfl rfl rfl (by kernel_rfl) Try.func5 (by kernel_rfl)
    (of_decide_eq_true (by kernel_rfl)) (by unfold Func.isWrapper; first | (rw [if_pos (by decide +kernel)]; kernel_rfl) | (rw [if_neg (by decide +kernel)]; exact ⟨rfl, rfl⟩))
    (fun os started H enc _ => lifted os started H enc)
theorem proved : Rows.EditOneSaid := over
#print axioms proved
end Go.Proofs.Ytkogfbgeepgjgaa.editOne
namespace Go.Proofs.Ytkogfbgeepgjgaa
/-- The row, under a short name, for the claim. -/
theorem editOne_holds : Rows.EditOneSaid := editOne.proved
end Go.Proofs.Ytkogfbgeepgjgaa
