/- Printed by a program of this session (wip/tools/prt.py) out of the translation: plain functions, and that the calls come to just them. No conditions beyond those that stand in each theorem. -/
import Derived.Test.YthfibffgmoblaaaDoorWw
import Derived.Test.YthfibffgmoblaaaDoorRows
import Derived.Test.YthfibffgmoblaaaDoorCards
import Derived.Test.YthfibffgmoblaaaDoorTie
import Derived.Test.YthfibffgmoblaaaDoorGlob
import Derived.SevenTiedAt
import Derived.LaidMore
import Derived.LaidLaws
import Derived.Handed
import Derived.MakeChecks
import Derived.JoinedOf
import Derived.Test.YthfibffgmoblaaaDoorPWorthBackx
import Derived.Test.YthfibffgmoblaaaDoorPureWorthBack
import Derived.WalkKit
import Derived.ProofKit
import Derived.OpenShut
import Derived.ShutString
import Derived.ChangeOld
import Derived.Below
import Derived.SizedLaws
namespace Go.Proofs.YthfibffgmoblaaaDoor.worthBack
open Go.ChangeShapes Go.WideShapes Go.ChangeAt Go.RowKit
open Go.ChangeMaps (open_string shut_string)
set_option linter.unusedVariables false
theorem own : ownKnob Tryd.prog.godebug = none := by kernel_rfl
theorem laidOut : laidOutB Tryd.prog = true := by kernel_rfl
def IsRow (k : IntKind) (w : World) (a : Option Addr) (len cap : Nat) (zs : List Int) : Prop :=
  (a = none ∧ len = 0 ∧ cap = 0 ∧ zs = []) ∨
  ∃ x, a = some x ∧ len ≤ cap ∧ cap ≤ maxLen ∧ zs.length = cap ∧ (∀ i, i < zs.length → w.cell? (x.add i) = some (.int k (zs.getD i 0))) ∧ ∀ n ∈ zs, (Lit.int k n).wf = true
/-- The door's own heap meets the condition. -/
theorem door_met (os : Os) (args : Array Value) : laidMetH Tryd.prog Rows.worthBackRow.laid ((World.doorLaid Tryd.prog 600 os).forCall (fun _ _ => 0) ⟨#[], args, []⟩).memory := by
  rw [MakeChecks.laidMetH_plain _ _ _ (by kernel_rfl)]
  exact laidMet_of_run' 8 (by kernel_rfl) (by kernel_rfl)
set_option maxRecDepth 100000 in
theorem lifted (os : Os) (started : os.Started) (H : Type) (enc : TypeId × Value → H) :
    ReturnsInHanded {} Tryd.checked os 5 .any (fun w args => (Rows.worthBackSpec.pre enc Tryd.prog Tryd.f5 Rows.worthBackRow.domain false w args ∧ laidMetH Tryd.prog Rows.worthBackRow.laid w) ∧ sizedMet enc Tryd.prog Tryd.f5 (OpenSpec.ofChange Rows.worthBackSpec) false w args) (Rows.worthBackSpec.post enc Tryd.prog Tryd.f5 false true false false) := by
  refine returnsInHanded_of_change_and (C := Tryd.checked) (X := fun w _ => laidMetH Tryd.prog Rows.worthBackRow.laid w) (fun _ _ _ hh h => h.of_heap hh) own started (by kernel_rfl) Tryd.func5
    (ChangeSpec.witness_shaped (enc := enc) (C := Tryd.checked) (os := os) (X := fun w _ => laidMetH Tryd.prog Rows.worthBackRow.laid w) false (World.doorLaid Tryd.prog 600 os) #[.agg #[.int .i64 0, .int .i64 0, .int .i64 0, .int .i64 0, .int .i64 0, .int .i64 0, .int .i64 0, .int .i64 0, .int .i64 0, .int .i64 0, .int .i64 0, .int .i64 0, .int .i64 0, .int .i64 0, .int .i64 0, .int .i64 0, .int .i64 0, .int .i64 0, .int .i64 0, .int .i64 0, .int .i64 0, .int .i64 0]] 8 rfl (World.shaped_of_RefB (by kernel_rfl) (by kernel_rfl)) (by kernel_rfl) (by kernel_rfl) (by kernel_rfl) (door_met os _)) ?_
  intro W base args ds gs before hval0 hW hcnd hsz0 hL _
  have hm : laidMet Tryd.prog Rows.worthBackRow.laid W := by rw [← MakeChecks.laidMetH_plain _ _ _ (by kernel_rfl)]; exact hL
  have hv1 : V1 W := V1_laid hm (by first | exact List.Mem.head _ | exact List.Mem.tail _ (List.Mem.head _) | exact List.Mem.tail _ (List.Mem.tail _ (List.Mem.head _)) | exact List.Mem.tail _ (List.Mem.tail _ (List.Mem.tail _ (List.Mem.head _))))
  have hv2 : V2 W := V2_laid hm (by first | exact List.Mem.head _ | exact List.Mem.tail _ (List.Mem.head _) | exact List.Mem.tail _ (List.Mem.tail _ (List.Mem.head _)) | exact List.Mem.tail _ (List.Mem.tail _ (List.Mem.tail _ (List.Mem.head _))))
  have hsz : (DataW.weightsEach Tryd.prog (Tryd.f5.params.toList ++ Rows.worthBackSpec.plain.varTypes Tryd.prog) (ds ++ gs)).all (· ≤ reachBytes) = true := hsz0
  have hval : ∀ (j : Nat) t v, Tryd.f5.params[j]? = some t → args[j]? = some v → Value.okWide Tryd.prog W .any base t v := hval0
  have hW' := hW
  obtain ⟨p, q, hA0, hV, rfl, hfz, hnd⟩ := hW
  have hA : DataW.TrodAll enc Tryd.prog W 0 (fun _ => true) true Tryd.f5.params.toList args.toList ds p := hA0
  rw [Tryd.params5] at hA hval hsz
  obtain ⟨v0, vs0, d0, ds0, p0, q0, hargs, rfl, rfl, h0, r0⟩ := trodAll_cons hA
  obtain ⟨rfl, rfl, rfl⟩ := trodAll_nil r0
  obtain rfl : args = #[v0] := by cases args; simp_all
  obtain ⟨rfl, rfl⟩ := trodVars_none hV
  have k0 := h0
  obtain ⟨cs0, rfl, ho0, rfl⟩ := Flat.open_flat (f := 8) (ks := [Flat.LK.i .i64, Flat.LK.i .i64, Flat.LK.i .i64, Flat.LK.i .i64, Flat.LK.i .i64, Flat.LK.i .i64, Flat.LK.i .i64, Flat.LK.i .i64, Flat.LK.i .i64, Flat.LK.i .i64, Flat.LK.i .i64, Flat.LK.i .i64, Flat.LK.i .i64, Flat.LK.i .i64, Flat.LK.i .i64, Flat.LK.i .i64, Flat.LK.i .i64, Flat.LK.i .i64, Flat.LK.i .i64, Flat.LK.i .i64, Flat.LK.i .i64, Flat.LK.i .i64]) (by kernel_rfl) (Flat.agg_array Tryd.underlying26 (hval 0 26 v0 rfl rfl)) h0
  obtain ⟨a0_0, rx0_0, ex0, w0_0, g0_0⟩ := Flat.allOk_i ho0
  obtain ⟨a0_1, rx0_1, rfl, w0_1, g0_1⟩ := Flat.allOk_i g0_0
  obtain ⟨a0_2, rx0_2, rfl, w0_2, g0_2⟩ := Flat.allOk_i g0_1
  obtain ⟨a0_3, rx0_3, rfl, w0_3, g0_3⟩ := Flat.allOk_i g0_2
  obtain ⟨a0_4, rx0_4, rfl, w0_4, g0_4⟩ := Flat.allOk_i g0_3
  obtain ⟨a0_5, rx0_5, rfl, w0_5, g0_5⟩ := Flat.allOk_i g0_4
  obtain ⟨a0_6, rx0_6, rfl, w0_6, g0_6⟩ := Flat.allOk_i g0_5
  obtain ⟨a0_7, rx0_7, rfl, w0_7, g0_7⟩ := Flat.allOk_i g0_6
  obtain ⟨a0_8, rx0_8, rfl, w0_8, g0_8⟩ := Flat.allOk_i g0_7
  obtain ⟨a0_9, rx0_9, rfl, w0_9, g0_9⟩ := Flat.allOk_i g0_8
  obtain ⟨a0_10, rx0_10, rfl, w0_10, g0_10⟩ := Flat.allOk_i g0_9
  obtain ⟨a0_11, rx0_11, rfl, w0_11, g0_11⟩ := Flat.allOk_i g0_10
  obtain ⟨a0_12, rx0_12, rfl, w0_12, g0_12⟩ := Flat.allOk_i g0_11
  obtain ⟨a0_13, rx0_13, rfl, w0_13, g0_13⟩ := Flat.allOk_i g0_12
  obtain ⟨a0_14, rx0_14, rfl, w0_14, g0_14⟩ := Flat.allOk_i g0_13
  obtain ⟨a0_15, rx0_15, rfl, w0_15, g0_15⟩ := Flat.allOk_i g0_14
  obtain ⟨a0_16, rx0_16, rfl, w0_16, g0_16⟩ := Flat.allOk_i g0_15
  obtain ⟨a0_17, rx0_17, rfl, w0_17, g0_17⟩ := Flat.allOk_i g0_16
  obtain ⟨a0_18, rx0_18, rfl, w0_18, g0_18⟩ := Flat.allOk_i g0_17
  obtain ⟨a0_19, rx0_19, rfl, w0_19, g0_19⟩ := Flat.allOk_i g0_18
  obtain ⟨a0_20, rx0_20, rfl, w0_20, g0_20⟩ := Flat.allOk_i g0_19
  obtain ⟨a0_21, rx0_21, rfl, w0_21, g0_21⟩ := Flat.allOk_i g0_20
  obtain rfl := Flat.allOk_nil g0_21
  obtain rfl : cs0 = #[.int .i64 a0_0, .int .i64 a0_1, .int .i64 a0_2, .int .i64 a0_3, .int .i64 a0_4, .int .i64 a0_5, .int .i64 a0_6, .int .i64 a0_7, .int .i64 a0_8, .int .i64 a0_9, .int .i64 a0_10, .int .i64 a0_11, .int .i64 a0_12, .int .i64 a0_13, .int .i64 a0_14, .int .i64 a0_15, .int .i64 a0_16, .int .i64 a0_17, .int .i64 a0_18, .int .i64 a0_19, .int .i64 a0_20, .int .i64 a0_21] := Array.ext' ex0
  clear hA0 hval0 hsz0 hsz
  refine (PWorthBack.drachmlaw04_WorthBack.walk Pure.WorthBack a0_0 a0_1 a0_2 a0_3 a0_4 a0_5 a0_6 a0_7 a0_8 a0_9 a0_10 a0_11 a0_12 a0_13 a0_14 a0_15 a0_16 a0_17 a0_18 a0_19 a0_20 a0_21 W (Glob.cons (by simpa [tab] using hv1) (Glob.cons (by simpa [tab] using hv2) (Glob.nil _))) w0_0 w0_1 w0_2 w0_3 w0_4 w0_5 w0_6 w0_7 w0_8 w0_9 w0_10 w0_11 w0_12 w0_13 w0_14 w0_15 w0_16 w0_17 w0_18 w0_19 w0_20 w0_21).mono fun e W' ⟨he, bel⟩ => ?_
  subst he
  exact ⟨_, rfl, _, _, _, [], _, [], hW', trodAll_mk1 (shut_bool Tryd.underlying4 _), (trodAll_cons_mk (Below.trod laidOut (by kernel_rfl) (of_decide_eq_true (by kernel_rfl)) k0 bel (fun _ h => by cases h)) trodAll_mk0), rfl, bel.frame _, fun h => by cases h⟩
theorem over : Rows.worthBackRow.holds Tryd.pinned (OpenSpec.ofChange Rows.worthBackSpec) :=
  OpenClaim.holds_of_wide 5 Tryd.f5 rfl rfl rfl rfl rfl rfl rfl ⟨rfl, rfl, rfl, rfl, rfl⟩ rfl rfl rfl rfl rfl (by kernel_rfl) Tryd.func5 (by kernel_rfl)
    (of_decide_eq_true (by kernel_rfl)) (by unfold Func.isWrapper; first | (rw [if_pos (by decide +kernel)]; kernel_rfl) | (rw [if_neg (by decide +kernel)]; exact ⟨rfl, rfl⟩))
    (fun os started H enc _ => lifted os started H enc)
theorem proved : Rows.WorthBackSaid := over
theorem card_holds : Rows.WorthBackCardSaid :=
  Claim7.holds_tied_plain_at .later [] [.data, .data, .data, .data] true (true, "58d989ae2167686759acbeddccef83b2e7d027d3687cd70d6bd020f041c75151") false
    over (fun _ h => by cases h) (by kernel_rfl) (fun _ h => by cases h) worthBack_row_tie rfl ⟨rfl, rfl⟩ (by kernel_rfl) rfl
    (fun f fn hf hfn => by
      obtain rfl : f = 5 := Option.some.inj ((show Tryd.prog.funcNamed "drachm/drachmlaw04.WorthBack" = some 5 by kernel_rfl).symm.trans hf) |>.symm
      obtain rfl : fn = Tryd.f5 := (Option.some.inj (Tryd.func5.symm.trans hfn)).symm
      exact ⟨by kernel_rfl, fun j t ht => by
        rw [Tryd.params5] at ht
        rcases j with _ | j
        · obtain rfl : t = 26 := by simpa using ht.symm
          exact (show Tryd.prog.wantsStandIn 26 = false by kernel_rfl)
        · skip
          simp at ht⟩)
    (by kernel_rfl)
#print axioms card_holds
end Go.Proofs.YthfibffgmoblaaaDoor.worthBack
namespace Go.Proofs.YthfibffgmoblaaaDoor
/-- The row, under a short name, for the claim. -/
theorem worthBack_holds : Rows.WorthBackCardSaid := worthBack.card_holds
end Go.Proofs.YthfibffgmoblaaaDoor
