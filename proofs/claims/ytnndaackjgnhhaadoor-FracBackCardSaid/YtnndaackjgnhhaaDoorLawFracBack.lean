/- Printed by a program of this session (wip/tools/prt.py) out of the translation: plain functions, and that the calls come to just them. No conditions beyond those that stand in each theorem. -/
import Derived.Test.YtnndaackjgnhhaaDoorWw
import Derived.Test.YtnndaackjgnhhaaDoorRows
import Derived.Test.YtnndaackjgnhhaaDoorCards
import Derived.Test.YtnndaackjgnhhaaDoorTie
import Derived.Test.YtnndaackjgnhhaaDoorGlob
import Derived.SevenTiedAt
import Derived.LaidMore
import Derived.LaidLaws
import Derived.Handed
import Derived.MakeChecks
import Derived.JoinedOf
import Derived.Test.YtnndaackjgnhhaaDoorPFracBackx2
import Derived.Test.YtnndaackjgnhhaaDoorPureFracBack
import Derived.WalkKit
import Derived.ProofKit
import Derived.OpenShut
import Derived.ShutString
import Derived.ChangeOld
import Derived.Below
import Derived.SizedLaws
import Derived.Test.YtnndaackjgnhhaaDoorFlat
namespace Go.Proofs.YtnndaackjgnhhaaDoor.fracBack
open Go.ChangeShapes Go.WideShapes Go.ChangeAt Go.RowKit
open Go.ChangeMaps (open_string shut_string)
set_option linter.unusedVariables false
theorem own : ownKnob Tryd.prog.godebug = none := by kernel_rfl
theorem laidOut : laidOutB Tryd.prog = true := by kernel_rfl
def IsRow (k : IntKind) (w : World) (a : Option Addr) (len cap : Nat) (zs : List Int) : Prop :=
  (a = none ∧ len = 0 ∧ cap = 0 ∧ zs = []) ∨
  ∃ x, a = some x ∧ len ≤ cap ∧ cap ≤ maxLen ∧ zs.length = cap ∧ (∀ i, i < zs.length → w.cell? (x.add i) = some (.int k (zs.getD i 0))) ∧ ∀ n ∈ zs, (Lit.int k n).wf = true
/-- The door's own heap meets the condition. -/
theorem door_met (os : Os) (args : Array Value) : laidMetH Tryd.prog Rows.fracBackRow.laid ((World.doorLaid Tryd.prog 600 os).forCall (fun _ _ => 0) ⟨#[], args, []⟩).memory := by
  rw [MakeChecks.laidMetH_plain _ _ _ (by kernel_rfl)]
  exact laidMet_of_run' 8 (by kernel_rfl) (by kernel_rfl)
set_option maxRecDepth 100000 in
theorem lifted (os : Os) (started : os.Started) (H : Type) (enc : TypeId × Value → H) :
    ReturnsInHanded {} Tryd.checked os 5 .any (fun w args => (Rows.fracBackSpec.pre enc Tryd.prog Tryd.f5 Rows.fracBackRow.domain false w args ∧ laidMetH Tryd.prog Rows.fracBackRow.laid w) ∧ sizedMet enc Tryd.prog Tryd.f5 (OpenSpec.ofChange Rows.fracBackSpec) false w args) (Rows.fracBackSpec.post enc Tryd.prog Tryd.f5 false true false false) := by
  refine returnsInHanded_of_change_and (C := Tryd.checked) (X := fun w _ => laidMetH Tryd.prog Rows.fracBackRow.laid w) (fun _ _ _ hh h => h.of_heap hh) own started (by kernel_rfl) Tryd.func5
    (ChangeSpec.witness_shaped (enc := enc) (C := Tryd.checked) (os := os) (X := fun w _ => laidMetH Tryd.prog Rows.fracBackRow.laid w) false (World.doorLaid Tryd.prog 600 os) #[.agg #[.int .i64 0, .int .i64 0, .int .i64 0, .int .i64 0, .int .i64 0, .int .i64 0]] 8 rfl (World.shaped_of_RefB (by kernel_rfl) (by kernel_rfl)) (by kernel_rfl) (by kernel_rfl) (by kernel_rfl) (door_met os _)) ?_
  intro W base args ds gs before hval0 hW hcnd hsz0 hL _
  have hm : laidMet Tryd.prog Rows.fracBackRow.laid W := by rw [← MakeChecks.laidMetH_plain _ _ _ (by kernel_rfl)]; exact hL
  have hv1 : V1 W := V1_laid hm (by first | exact List.Mem.head _)
  have hsz : (DataW.weightsEach Tryd.prog (Tryd.f5.params.toList ++ Rows.fracBackSpec.plain.varTypes Tryd.prog) (ds ++ gs)).all (· ≤ reachBytes) = true := hsz0
  have hval : ∀ (j : Nat) t v, Tryd.f5.params[j]? = some t → args[j]? = some v → Value.okWide Tryd.prog W .any base t v := hval0
  have hW' := hW
  obtain ⟨p, q, hA0, hV, rfl, hfz, hnd⟩ := hW
  have hA : DataW.TrodAll enc Tryd.prog W 0 (fun _ => true) true Tryd.f5.params.toList args.toList ds p := hA0
  rw [Tryd.params5] at hA hval hsz
  obtain ⟨v0, vs0, d0, ds0, p0, q0, hargs, rfl, rfl, h0, r0⟩ := trodAll_cons hA
  obtain ⟨rfl, rfl, rfl⟩ := trodAll_nil r0
  obtain rfl : args = #[v0] := by cases args; simp_all
  obtain ⟨rfl, rfl⟩ := trodVars_none hV
  have k0 := h0
  obtain ⟨cs0, rfl, ho0, rfl⟩ := Flat.open_flat (f := 8) (ks := [Flat.LK.i .i64, Flat.LK.i .i64, Flat.LK.i .i64, Flat.LK.i .i64, Flat.LK.i .i64, Flat.LK.i .i64]) (by kernel_rfl) (Flat.agg_array Tryd.underlying37 (hval 0 37 v0 rfl rfl)) h0
  obtain ⟨a0_0, rx0_0, ex0, w0_0, g0_0⟩ := Flat.allOk_i ho0
  obtain ⟨a0_1, rx0_1, rfl, w0_1, g0_1⟩ := Flat.allOk_i g0_0
  obtain ⟨a0_2, rx0_2, rfl, w0_2, g0_2⟩ := Flat.allOk_i g0_1
  obtain ⟨a0_3, rx0_3, rfl, w0_3, g0_3⟩ := Flat.allOk_i g0_2
  obtain ⟨a0_4, rx0_4, rfl, w0_4, g0_4⟩ := Flat.allOk_i g0_3
  obtain ⟨a0_5, rx0_5, rfl, w0_5, g0_5⟩ := Flat.allOk_i g0_4
  obtain rfl := Flat.allOk_nil g0_5
  obtain rfl : cs0 = #[.int .i64 a0_0, .int .i64 a0_1, .int .i64 a0_2, .int .i64 a0_3, .int .i64 a0_4, .int .i64 a0_5] := Array.ext' ex0
  clear hA0 hval0 hsz0 hsz
  refine (PFracBack.drachmlaw02_FracBack.walk Pure.FracBack a0_0 a0_1 a0_2 a0_3 a0_4 a0_5 W (Glob.cons (by simpa [tab] using hv1) (Glob.nil _)) w0_0 w0_1 w0_2 w0_3 w0_4 w0_5).mono fun e W' ⟨he, bel⟩ => ?_
  subst he
  exact ⟨_, rfl, _, _, _, [], _, [], hW', trodAll_mk1 (shut_bool Tryd.underlying4 _), (trodAll_cons_mk (Below.trod laidOut (by kernel_rfl) (of_decide_eq_true (by kernel_rfl)) k0 bel (fun _ h => by cases h)) trodAll_mk0), rfl, bel.frame _, fun h => by cases h⟩
theorem over : Rows.fracBackRow.holds Tryd.pinned (OpenSpec.ofChange Rows.fracBackSpec) :=
  OpenClaim.holds_of_wide 5 Tryd.f5 rfl rfl rfl rfl rfl rfl rfl ⟨rfl, rfl, rfl, rfl, rfl⟩ rfl rfl rfl rfl rfl (by kernel_rfl) Tryd.func5 (by kernel_rfl)
    (of_decide_eq_true (by kernel_rfl)) (by unfold Func.isWrapper; first | (rw [if_pos (by decide +kernel)]; kernel_rfl) | (rw [if_neg (by decide +kernel)]; exact ⟨rfl, rfl⟩))
    (fun os started H enc _ => lifted os started H enc)
theorem proved : Rows.FracBackSaid := over
theorem card_holds : Rows.FracBackCardSaid :=
  Claim7.holds_tied_plain_at .later [] [.data] true (true, "e068394789310cc8d1ef26a587d51c518c2f73cf6d4db713a609e54d2409730b") true
    over (fun _ h => by cases h) (by kernel_rfl) (fun _ h => by cases h) fracBack_row_tie rfl ⟨rfl, rfl⟩ (by kernel_rfl) rfl
    (fun f fn hf hfn => by
      obtain rfl : f = 5 := Option.some.inj ((show Tryd.prog.funcNamed "drachm/drachmlaw02.FracBack" = some 5 by kernel_rfl).symm.trans hf) |>.symm
      obtain rfl : fn = Tryd.f5 := (Option.some.inj (Tryd.func5.symm.trans hfn)).symm
      exact ⟨by kernel_rfl, fun j t ht => by
        rw [Tryd.params5] at ht
        rcases j with _ | j
        · obtain rfl : t = 37 := by simpa using ht.symm
          exact (show Tryd.prog.wantsStandIn 37 = false by kernel_rfl)
        · skip
          simp at ht⟩)
    (by kernel_rfl)
#print axioms card_holds
end Go.Proofs.YtnndaackjgnhhaaDoor.fracBack
namespace Go.Proofs.YtnndaackjgnhhaaDoor
/-- The row, under a short name, for the claim. -/
theorem fracBack_holds : Rows.FracBackCardSaid := fracBack.card_holds
end Go.Proofs.YtnndaackjgnhhaaDoor
