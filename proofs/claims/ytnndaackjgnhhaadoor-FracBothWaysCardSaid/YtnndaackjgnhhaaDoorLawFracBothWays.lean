/- Printed by a program of this session (wip/tools/prt.py) out of the translation: plain functions, and that the calls come to just them. No conditions beyond those that stand in each theorem. -/
import Derived.Test.YtnndaackjgnhhaaDoorWw
import Derived.Test.YtnndaackjgnhhaaDoorRows
import Derived.Test.YtnndaackjgnhhaaDoorCards
import Derived.Test.YtnndaackjgnhhaaDoorTie
import Derived.Test.YtnndaackjgnhhaaDoorGlob
import Derived.SevenTiedAt
import Derived.LaidMore
import Derived.LaidLaws
import Derived.Handed
import Derived.MakeChecks
import Derived.JoinedOf
import Derived.Test.YtnndaackjgnhhaaDoorPFracBothWaysx2
import Derived.Test.YtnndaackjgnhhaaDoorPureFracBothWays
import Derived.WalkKit
import Derived.ProofKit
import Derived.OpenShut
import Derived.ShutString
import Derived.ChangeOld
import Derived.Below
import Derived.SizedLaws
import Derived.Test.YtnndaackjgnhhaaDoorFlat
namespace Go.Proofs.YtnndaackjgnhhaaDoor.fracBothWays
open Go.ChangeShapes Go.WideShapes Go.ChangeAt Go.RowKit
open Go.ChangeMaps (open_string shut_string)
set_option linter.unusedVariables false
theorem own : ownKnob Tryd.prog.godebug = none := by kernel_rfl
theorem laidOut : laidOutB Tryd.prog = true := by kernel_rfl
def IsRow (k : IntKind) (w : World) (a : Option Addr) (len cap : Nat) (zs : List Int) : Prop :=
  (a = none ∧ len = 0 ∧ cap = 0 ∧ zs = []) ∨
  ∃ x, a = some x ∧ len ≤ cap ∧ cap ≤ maxLen ∧ zs.length = cap ∧ (∀ i, i < zs.length → w.cell? (x.add i) = some (.int k (zs.getD i 0))) ∧ ∀ n ∈ zs, (Lit.int k n).wf = true
/-- The door's own heap meets the condition. -/
theorem door_met (os : Os) (args : Array Value) : laidMetH Tryd.prog Rows.fracBothWaysRow.laid ((World.doorLaid Tryd.prog 600 os).forCall (fun _ _ => 0) ⟨#[], args, []⟩).memory := by
  rw [MakeChecks.laidMetH_plain _ _ _ (by kernel_rfl)]
  exact laidMet_of_run' 8 (by kernel_rfl) (by kernel_rfl)
set_option maxRecDepth 100000 in
theorem lifted (os : Os) (started : os.Started) (H : Type) (enc : TypeId × Value → H) :
    ReturnsInHanded {} Tryd.checked os 9 .any (fun w args => (Rows.fracBothWaysSpec.pre enc Tryd.prog Tryd.f9 Rows.fracBothWaysRow.domain false w args ∧ laidMetH Tryd.prog Rows.fracBothWaysRow.laid w) ∧ sizedMet enc Tryd.prog Tryd.f9 (OpenSpec.ofChange Rows.fracBothWaysSpec) false w args) (Rows.fracBothWaysSpec.post enc Tryd.prog Tryd.f9 false true false false) := by
  refine returnsInHanded_of_change_and (C := Tryd.checked) (X := fun w _ => laidMetH Tryd.prog Rows.fracBothWaysRow.laid w) (fun _ _ _ hh h => h.of_heap hh) own started (by kernel_rfl) Tryd.func9
    (ChangeSpec.witness_shaped (enc := enc) (C := Tryd.checked) (os := os) (X := fun w _ => laidMetH Tryd.prog Rows.fracBothWaysRow.laid w) false (World.doorLaid Tryd.prog 600 os) #[.agg #[.int .i64 0, .int .i64 0, .int .i64 0], .string ByteArray.empty, .agg #[.int .i64 0, .int .i64 0]] 8 rfl (World.shaped_of_RefB (by kernel_rfl) (by kernel_rfl)) (by kernel_rfl) (by kernel_rfl) (by kernel_rfl) (door_met os _)) ?_
  intro W base args ds gs before hval0 hW hcnd hsz0 hL _
  have hm : laidMet Tryd.prog Rows.fracBothWaysRow.laid W := by rw [← MakeChecks.laidMetH_plain _ _ _ (by kernel_rfl)]; exact hL
  have hv1 : V1 W := V1_laid hm (by first | exact List.Mem.head _ | exact List.Mem.tail _ (List.Mem.head _) | exact List.Mem.tail _ (List.Mem.tail _ (List.Mem.head _)) | exact List.Mem.tail _ (List.Mem.tail _ (List.Mem.tail _ (List.Mem.head _))) | exact List.Mem.tail _ (List.Mem.tail _ (List.Mem.tail _ (List.Mem.tail _ (List.Mem.head _)))) | exact List.Mem.tail _ (List.Mem.tail _ (List.Mem.tail _ (List.Mem.tail _ (List.Mem.tail _ (List.Mem.head _))))))
  have hv3 : V3 W := V3_laid hm (by first | exact List.Mem.head _ | exact List.Mem.tail _ (List.Mem.head _) | exact List.Mem.tail _ (List.Mem.tail _ (List.Mem.head _)) | exact List.Mem.tail _ (List.Mem.tail _ (List.Mem.tail _ (List.Mem.head _))) | exact List.Mem.tail _ (List.Mem.tail _ (List.Mem.tail _ (List.Mem.tail _ (List.Mem.head _)))) | exact List.Mem.tail _ (List.Mem.tail _ (List.Mem.tail _ (List.Mem.tail _ (List.Mem.tail _ (List.Mem.head _))))))
  have hv4 : V4 W := V4_laid hm (by first | exact List.Mem.head _ | exact List.Mem.tail _ (List.Mem.head _) | exact List.Mem.tail _ (List.Mem.tail _ (List.Mem.head _)) | exact List.Mem.tail _ (List.Mem.tail _ (List.Mem.tail _ (List.Mem.head _))) | exact List.Mem.tail _ (List.Mem.tail _ (List.Mem.tail _ (List.Mem.tail _ (List.Mem.head _)))) | exact List.Mem.tail _ (List.Mem.tail _ (List.Mem.tail _ (List.Mem.tail _ (List.Mem.tail _ (List.Mem.head _))))))
  have hv5 : V5 W := V5_laid hm (by first | exact List.Mem.head _ | exact List.Mem.tail _ (List.Mem.head _) | exact List.Mem.tail _ (List.Mem.tail _ (List.Mem.head _)) | exact List.Mem.tail _ (List.Mem.tail _ (List.Mem.tail _ (List.Mem.head _))) | exact List.Mem.tail _ (List.Mem.tail _ (List.Mem.tail _ (List.Mem.tail _ (List.Mem.head _)))) | exact List.Mem.tail _ (List.Mem.tail _ (List.Mem.tail _ (List.Mem.tail _ (List.Mem.tail _ (List.Mem.head _))))))
  have hsz : (DataW.weightsEach Tryd.prog (Tryd.f9.params.toList ++ Rows.fracBothWaysSpec.plain.varTypes Tryd.prog) (ds ++ gs)).all (· ≤ reachBytes) = true := hsz0
  have hval : ∀ (j : Nat) t v, Tryd.f9.params[j]? = some t → args[j]? = some v → Value.okWide Tryd.prog W .any base t v := hval0
  have hW' := hW
  obtain ⟨p, q, hA0, hV, rfl, hfz, hnd⟩ := hW
  have hA : DataW.TrodAll enc Tryd.prog W 0 (fun _ => true) true Tryd.f9.params.toList args.toList ds p := hA0
  rw [Tryd.params9] at hA hval hsz
  obtain ⟨v0, vs0, d0, ds0, p0, q0, hargs, rfl, rfl, h0, r0⟩ := trodAll_cons hA
  obtain ⟨v1, vs1, d1, ds1, p1, q1, rfl, rfl, rfl, h1, r1⟩ := trodAll_cons r0
  obtain ⟨v2, vs2, d2, ds2, p2, q2, rfl, rfl, rfl, h2, r2⟩ := trodAll_cons r1
  obtain ⟨rfl, rfl, rfl⟩ := trodAll_nil r2
  obtain rfl : args = #[v0, v1, v2] := by cases args; simp_all
  obtain ⟨rfl, rfl⟩ := trodVars_none hV
  have k0 := h0
  obtain ⟨cs0, rfl, ho0, rfl⟩ := Flat.open_flat (f := 8) (ks := [Flat.LK.i .i64, Flat.LK.i .i64, Flat.LK.i .i64]) (by kernel_rfl) (Flat.agg_struct Tryd.underlying23 (hval 0 23 v0 rfl rfl)) h0
  obtain ⟨a0_0, rx0_0, ex0, w0_0, g0_0⟩ := Flat.allOk_i ho0
  obtain ⟨a0_1, rx0_1, rfl, w0_1, g0_1⟩ := Flat.allOk_i g0_0
  obtain ⟨a0_2, rx0_2, rfl, w0_2, g0_2⟩ := Flat.allOk_i g0_1
  obtain rfl := Flat.allOk_nil g0_2
  obtain rfl : cs0 = #[.int .i64 a0_0, .int .i64 a0_1, .int .i64 a0_2] := Array.ext' ex0
  obtain ⟨a1, rfl, rfl, rfl, y1⟩ := open_string Tryd.underlying9 (hval 1 9 v1 rfl rfl) h1
  have w1 : a1.size ≤ 140737488351232 := by
    have z := sized_string hsz (j := 1) (t := 9) rfl rfl
    rw [Array.length_toList] at z
    exact z
  have k2 := h2
  obtain ⟨cs2, rfl, ho2, rfl⟩ := Flat.open_flat (f := 8) (ks := [Flat.LK.i .i64, Flat.LK.i .i64]) (by kernel_rfl) (Flat.agg_array Tryd.underlying50 (hval 2 50 v2 rfl rfl)) h2
  obtain ⟨a2_0, rx2_0, ex2, w2_0, g2_0⟩ := Flat.allOk_i ho2
  obtain ⟨a2_1, rx2_1, rfl, w2_1, g2_1⟩ := Flat.allOk_i g2_0
  obtain rfl := Flat.allOk_nil g2_1
  obtain rfl : cs2 = #[.int .i64 a2_0, .int .i64 a2_1] := Array.ext' ex2
  clear hA0 hval0 hsz0 hsz
  refine (PFracBothWays.drachmlaw02_FracBothWays.walk Pure.FracBothWays a0_0 a0_1 a0_2 a1 a2_0 a2_1 W (Glob.cons (by simpa [tab] using hv1) (Glob.cons (by simpa [tab] using hv3) (Glob.cons (by simpa [tab] using hv4) (Glob.cons (by simpa [tab] using hv5) (Glob.nil _))))) w0_0 w0_1 w0_2 w1 w2_0 w2_1).mono fun e W' ⟨he, bel⟩ => ?_
  subst he
  exact ⟨_, rfl, _, _, _, [], _, [], hW', trodAll_mk1 (shut_bool Tryd.underlying4 _), (trodAll_cons_mk (Below.trod laidOut (by kernel_rfl) (of_decide_eq_true (by kernel_rfl)) k0 bel (fun _ h => by cases h)) (trodAll_cons_mk (shut_string Tryd.underlying9 y1) (trodAll_cons_mk (Below.trod laidOut (by kernel_rfl) (of_decide_eq_true (by kernel_rfl)) k2 bel (fun _ h => by cases h)) trodAll_mk0))), rfl, bel.frame _, fun h => by cases h⟩
theorem over : Rows.fracBothWaysRow.holds Tryd.pinned (OpenSpec.ofChange Rows.fracBothWaysSpec) :=
  OpenClaim.holds_of_wide 9 Tryd.f9 rfl rfl rfl rfl rfl rfl rfl ⟨rfl, rfl, rfl, rfl, rfl⟩ rfl rfl rfl rfl rfl (by kernel_rfl) Tryd.func9 (by kernel_rfl)
    (of_decide_eq_true (by kernel_rfl)) (by unfold Func.isWrapper; first | (rw [if_pos (by decide +kernel)]; kernel_rfl) | (rw [if_neg (by decide +kernel)]; exact ⟨rfl, rfl⟩))
    (fun os started H enc _ => lifted os started H enc)
theorem proved : Rows.FracBothWaysSaid := over
theorem card_holds : Rows.FracBothWaysCardSaid :=
  Claim7.holds_tied_plain_at .later [] [.data, .data, .data, .sentinel, .sentinel, .data] true (true, "e068394789310cc8d1ef26a587d51c518c2f73cf6d4db713a609e54d2409730b") true
    over (fun _ h => by cases h) (by kernel_rfl) (fun _ h => by cases h) fracBothWays_row_tie rfl ⟨rfl, rfl⟩ (by kernel_rfl) rfl
    (fun f fn hf hfn => by
      obtain rfl : f = 9 := Option.some.inj ((show Tryd.prog.funcNamed "drachm/drachmlaw02.FracBothWays" = some 9 by kernel_rfl).symm.trans hf) |>.symm
      obtain rfl : fn = Tryd.f9 := (Option.some.inj (Tryd.func9.symm.trans hfn)).symm
      exact ⟨by kernel_rfl, fun j t ht => by
        rw [Tryd.params9] at ht
        rcases j with _ | j
        · obtain rfl : t = 23 := by simpa using ht.symm
          exact (show Tryd.prog.wantsStandIn 23 = false by kernel_rfl)
        · skip
          rcases j with _ | j
          · obtain rfl : t = 9 := by simpa using ht.symm
            exact (show Tryd.prog.wantsStandIn 9 = false by kernel_rfl)
          · skip
            rcases j with _ | j
            · obtain rfl : t = 50 := by simpa using ht.symm
              exact (show Tryd.prog.wantsStandIn 50 = false by kernel_rfl)
            · skip
              simp at ht⟩)
    (by kernel_rfl)
#print axioms card_holds
end Go.Proofs.YtnndaackjgnhhaaDoor.fracBothWays
namespace Go.Proofs.YtnndaackjgnhhaaDoor
/-- The row, under a short name, for the claim. -/
theorem fracBothWays_holds : Rows.FracBothWaysCardSaid := fracBothWays.card_holds
end Go.Proofs.YtnndaackjgnhhaaDoor
