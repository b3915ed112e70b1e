/- Printed by a program of this session (wip/tools/prt.py) out of the translation: plain functions, and that the calls come to just them. No conditions beyond those that stand in each theorem. -/
import Derived.Test.YtimkhjbnkcgekaaDoorGlob
import Derived.Test.YtimkhjbnkcgekaaDoorPLexPartsx0
import Derived.Test.YtimkhjbnkcgekaaDoorPLexPartsx1
namespace Go.Proofs.YtimkhjbnkcgekaaDoor.PLexParts
open Go.Proofs.YtimkhjbnkcgekaaDoor.Sq Go.RowKit Go.Proofs.YtimkhjbnkcgekaaDoorW.PrintWords Go.Proofs.YtimkhjbnkcgekaaDoorW.PrintLast Go.Proofs.YtimkhjbnkcgekaaDoorW.PrintMore Go.Proofs.YtimkhjbnkcgekaaDoor.PB Go.Proofs.YtimkhjbnkcgekaaDoor.PC Go.Proofs.YtimkhjbnkcgekaaDoor.PQ
attribute [local go_sem] max2_int min2_int max_two min_two max_three min_three max_four min_four   -- for this text's walks alone
set_option linter.unusedVariables false
set_option linter.unusedSimpArgs false

attribute [local go_sem high] eqA31
/-! ### drachmlaw08_LexParts: function 8 -/
mutual
def drachmlaw08_LexParts.j0 : Nat → Bool → ByteArray → List (S31) → List (S31) → List (S31) → Bool → Option (Bool)
 | 0, _, _, _, _, _, _ => none
 | k + 1, x5, x7, x9, x12, x13, x83 => if x83 = true then (none) else (drachmlaw08_LexParts.l0 k x5 x7 x9 x12 x13 0)
def drachmlaw08_LexParts.l0 : Nat → Bool → ByteArray → List (S31) → List (S31) → List (S31) → Int → Option (Bool)
 | 0, _, _, _, _, _, _ => none
 | k + 1, x5, x7, x9, x12, x13, x14 => if x14 < (x12.length : Int) then (if 0 ≤ (wrap64 ((wrap64 ((x9.length : Int) + 1)) + x14)) then (if (wrap64 ((wrap64 ((x9.length : Int) + 1)) + x14)) < (x13.length : Int) then (if 0 ≤ x14 then (if (!(((rd_T31 x13 (wrap64 ((wrap64 ((x9.length : Int) + 1)) + x14))).f0) == ((rd_T31 x12 x14).f0)) || (!((wrap64 ((wrap64 (((rd_T31 x13 (wrap64 ((wrap64 ((x9.length : Int) + 1)) + x14))).f1) - (x7.size : Int))) - 1)) == ((rd_T31 x12 x14).f1)) || (!((((rd_T31 x13 (wrap64 ((wrap64 ((x9.length : Int) + 1)) + x14))).f2).toList) == (((rd_T31 x12 x14).f2).toList)) || (!(((rd_T31 x13 (wrap64 ((wrap64 ((x9.length : Int) + 1)) + x14))).f3) == ((rd_T31 x12 x14).f3)))))) = true then (none) else (drachmlaw08_LexParts.l0 k x5 x7 x9 x12 x13 (wrap64 (x14 + 1)))) else (none)) else (none)) else (none)) else (if x5 = true then (if 0 ≤ (x9.length : Int) then (if (x9.length : Int) ≤ (x13.length : Int) then ((drachmref08_Same.f k (x13.take ((x9.length : Int) : Int).toNat) x9).bind fun t135 => (some t135)) else (none)) else (none)) else (none))
end
def drachmlaw08_LexParts.f (k : Nat) (a0 : Int) (a1_0 : ByteArray) (a1_1 : ByteArray) : Option (Bool) := (drachmlaw08_awake.f).bind fun t102 => ((drachmlaw08_rest.f a0 5).bind fun t103 => ((drachmlaw08_short.f a1_0 60).bind fun t104 => ((drachmlaw08_short.f a1_1 60).bind fun t105 => ((lex_Lex.f (wrap64 (1 + t103)) t104).bind fun bt106 => (if bt106.2.2 = 0 then ((drachmlaw08_each.f (wrap64 (1 + t103)) t105).bind fun t111 => ((drachmref07_Of.f (wrap64 (1 + t103))).bind fun bt114 => ((some (([bt114.2.2.1] : List Int) : List Int)).bind fun y120 => (if t104.size + (strOfNums y120).size ≤ 9223372036854775807 then (if (t104 ++ (strOfNums y120)).size + t105.size ≤ 9223372036854775807 then ((drachmlaw08_each.f (wrap64 (1 + t103)) ((t104 ++ (strOfNums y120)) ++ t105)).bind fun t123 => (if (t123.length : Int) = (wrap64 ((wrap64 ((bt106.1.length : Int) + 1)) + (t111.length : Int))) then (if 0 ≤ (bt106.1.length : Int) then (if (bt106.1.length : Int) < (t123.length : Int) then (if ((rd_T31 t123 (bt106.1.length : Int)).f0) = 5 then (drachmlaw08_LexParts.j0 k t102 t104 bt106.1 t111 t123 (((rd_T31 t123 (bt106.1.length : Int)).f1) != (t104.size : Int))) else (drachmlaw08_LexParts.j0 k t102 t104 bt106.1 t111 t123 true)) else (none)) else (none)) else (drachmlaw08_LexParts.j0 k t102 t104 bt106.1 t111 t123 true))) else (none)) else (none))))) else (if t102 = true then (some ((bt106.1.length : Int) == 0)) else (none)))))))
theorem drachmlaw08_LexParts.mono_l : ∀ k, (∀ y0 y1 y2 y3 y4 y5, LeO (drachmlaw08_LexParts.j0 k y0 y1 y2 y3 y4 y5) (drachmlaw08_LexParts.j0 (k + 1) y0 y1 y2 y3 y4 y5)) ∧ (∀ y0 y1 y2 y3 y4 y5, LeO (drachmlaw08_LexParts.l0 k y0 y1 y2 y3 y4 y5) (drachmlaw08_LexParts.l0 (k + 1) y0 y1 y2 y3 y4 y5))
 | 0 => ⟨fun _ _ _ _ _ _ r h => by simp [drachmlaw08_LexParts.j0] at h, fun _ _ _ _ _ _ r h => by simp [drachmlaw08_LexParts.l0] at h⟩
 | k + 1 => by
  obtain ⟨ih0, ih1⟩ := drachmlaw08_LexParts.mono_l k
  refine ⟨?_, ?_⟩
  ·intro y0 y1 y2 y3 y4 y5
   unfold drachmlaw08_LexParts.j0
   repeat' first
   | (with_reducible exact ih0 _ _ _ _ _ _)
   | (with_reducible exact ih1 _ _ _ _ _ _)
   | (with_reducible exact drachmref08_Same.mono _ _ _)
   | (with_reducible exact LeO.refl _)
   | (with_reducible exact LeO.none _)
   | (with_reducible refine LeO.ite ?_ ?_)
   | (with_reducible refine LeO.bind ?_ (fun _ => ?_))
   | exact ih0 _ _ _ _ _ _
   | exact ih1 _ _ _ _ _ _
   | exact drachmref08_Same.mono _ _ _
   | exact LeO.none _
   | refine LeO.ite ?_ ?_
   | refine LeO.bind ?_ (fun _ => ?_)
  ·intro y0 y1 y2 y3 y4 y5
   unfold drachmlaw08_LexParts.l0
   repeat' first
   | (with_reducible exact ih0 _ _ _ _ _ _)
   | (with_reducible exact ih1 _ _ _ _ _ _)
   | (with_reducible exact drachmref08_Same.mono _ _ _)
   | (with_reducible exact LeO.refl _)
   | (with_reducible exact LeO.none _)
   | (with_reducible refine LeO.ite ?_ ?_)
   | (with_reducible refine LeO.bind ?_ (fun _ => ?_))
   | exact ih0 _ _ _ _ _ _
   | exact ih1 _ _ _ _ _ _
   | exact drachmref08_Same.mono _ _ _
   | exact LeO.none _
   | refine LeO.ite ?_ ?_
   | refine LeO.bind ?_ (fun _ => ?_)
theorem drachmlaw08_LexParts.mono : ∀ a0 a1 a2 k, LeO (drachmlaw08_LexParts.f k a0 a1 a2) (drachmlaw08_LexParts.f (k + 1) a0 a1 a2) := by
 intro a0 a1 a2 k
 obtain ⟨ih0, ih1⟩ := drachmlaw08_LexParts.mono_l k
 unfold drachmlaw08_LexParts.f
 repeat' first
   | (with_reducible exact ih0 _ _ _ _ _ _)
   | (with_reducible exact ih1 _ _ _ _ _ _)
   | (with_reducible exact drachmref08_Same.mono _ _ _)
   | (with_reducible exact LeO.refl _)
   | (with_reducible exact LeO.none _)
   | (with_reducible refine LeO.ite ?_ ?_)
   | (with_reducible refine LeO.bind ?_ (fun _ => ?_))
   | exact ih0 _ _ _ _ _ _
   | exact ih1 _ _ _ _ _ _
   | exact drachmref08_Same.mono _ _ _
   | exact LeO.none _
   | refine LeO.ite ?_ ?_
   | refine LeO.bind ?_ (fun _ => ?_)
set_option maxHeartbeats 8000000 in
set_option maxRecDepth 100000 in
theorem drachmlaw08_LexParts.calls (k : Nat) (a0 : Int) (a1_0 : ByteArray) (a1_1 : ByteArray) (r : Bool) (w : World) (hG : Glob [0, 2] w) (h : drachmlaw08_LexParts.f k a0 a1_0 a1_1 = some r) :
  Calls Tryd.prog 8 #[.int .i64 a0, .agg #[.string a1_0, .string a1_1]] w fun e w' => e = .returned (.bool r) ∧ Below w.heap.size w w' := by
 have hu22 := Tryd.underlying22
 have hu31 := Tryd.underlying31
 have hfd38_2 : ∀ (y0_ y1_ y2_ y3_ y4_ y5_ : Value) (W : World), (Instr.field 38 (.agg #[y0_, y1_, y2_, y3_, y4_, y5_]) 2).run Tryd.prog W = .ok (y2_) W := by intro y0_ y1_ y2_ y3_ y4_ y5_ W; first | kernel_rfl | rfl
 have HB := Aside0.mk (Below.refl w.heap.size w)
 have H : ((drachmlaw08_awake.f).bind fun t102 => ((drachmlaw08_rest.f a0 5).bind fun t103 => ((drachmlaw08_short.f a1_0 60).bind fun t104 => ((drachmlaw08_short.f a1_1 60).bind fun t105 => ((lex_Lex.f (wrap64 (1 + t103)) t104).bind fun bt106 => (if bt106.2.2 = 0 then ((drachmlaw08_each.f (wrap64 (1 + t103)) t105).bind fun t111 => ((drachmref07_Of.f (wrap64 (1 + t103))).bind fun bt114 => ((some (([bt114.2.2.1] : List Int) : List Int)).bind fun y120 => (if t104.size + (strOfNums y120).size ≤ 9223372036854775807 then (if (t104 ++ (strOfNums y120)).size + t105.size ≤ 9223372036854775807 then ((drachmlaw08_each.f (wrap64 (1 + t103)) ((t104 ++ (strOfNums y120)) ++ t105)).bind fun t123 => (if (t123.length : Int) = (wrap64 ((wrap64 ((bt106.1.length : Int) + 1)) + (t111.length : Int))) then (if 0 ≤ (bt106.1.length : Int) then (if (bt106.1.length : Int) < (t123.length : Int) then (if ((rd_T31 t123 (bt106.1.length : Int)).f0) = 5 then (drachmlaw08_LexParts.j0 k t102 t104 bt106.1 t111 t123 (((rd_T31 t123 (bt106.1.length : Int)).f1) != (t104.size : Int))) else (drachmlaw08_LexParts.j0 k t102 t104 bt106.1 t111 t123 true)) else (none)) else (none)) else (drachmlaw08_LexParts.j0 k t102 t104 bt106.1 t111 t123 true))) else (none)) else (none))))) else (if t102 = true then (some ((bt106.1.length : Int) == 0)) else (none)))))))) = some r := h
 clear h
 replace H := Option.bind_eq_some_iff.mp H
 obtain ⟨t102, A30, H⟩ := H
 replace H : ((drachmlaw08_rest.f a0 5).bind fun t103 => ((drachmlaw08_short.f a1_0 60).bind fun t104 => ((drachmlaw08_short.f a1_1 60).bind fun t105 => ((lex_Lex.f (wrap64 (1 + t103)) t104).bind fun bt106 => (if bt106.2.2 = 0 then ((drachmlaw08_each.f (wrap64 (1 + t103)) t105).bind fun t111 => ((drachmref07_Of.f (wrap64 (1 + t103))).bind fun bt114 => ((some (([bt114.2.2.1] : List Int) : List Int)).bind fun y120 => (if t104.size + (strOfNums y120).size ≤ 9223372036854775807 then (if (t104 ++ (strOfNums y120)).size + t105.size ≤ 9223372036854775807 then ((drachmlaw08_each.f (wrap64 (1 + t103)) ((t104 ++ (strOfNums y120)) ++ t105)).bind fun t123 => (if (t123.length : Int) = (wrap64 ((wrap64 ((bt106.1.length : Int) + 1)) + (t111.length : Int))) then (if 0 ≤ (bt106.1.length : Int) then (if (bt106.1.length : Int) < (t123.length : Int) then (if ((rd_T31 t123 (bt106.1.length : Int)).f0) = 5 then (drachmlaw08_LexParts.j0 k t102 t104 bt106.1 t111 t123 (((rd_T31 t123 (bt106.1.length : Int)).f1) != (t104.size : Int))) else (drachmlaw08_LexParts.j0 k t102 t104 bt106.1 t111 t123 true)) else (none)) else (none)) else (drachmlaw08_LexParts.j0 k t102 t104 bt106.1 t111 t123 true))) else (none)) else (none))))) else (if t102 = true then (some ((bt106.1.length : Int) == 0)) else (none))))))) = some r := H
 have A3 := Aside0.mk A30
 clear A30
 replace H := Option.bind_eq_some_iff.mp H
 obtain ⟨t103, A40, H⟩ := H
 replace H : ((drachmlaw08_short.f a1_0 60).bind fun t104 => ((drachmlaw08_short.f a1_1 60).bind fun t105 => ((lex_Lex.f (wrap64 (1 + t103)) t104).bind fun bt106 => (if bt106.2.2 = 0 then ((drachmlaw08_each.f (wrap64 (1 + t103)) t105).bind fun t111 => ((drachmref07_Of.f (wrap64 (1 + t103))).bind fun bt114 => ((some (([bt114.2.2.1] : List Int) : List Int)).bind fun y120 => (if t104.size + (strOfNums y120).size ≤ 9223372036854775807 then (if (t104 ++ (strOfNums y120)).size + t105.size ≤ 9223372036854775807 then ((drachmlaw08_each.f (wrap64 (1 + t103)) ((t104 ++ (strOfNums y120)) ++ t105)).bind fun t123 => (if (t123.length : Int) = (wrap64 ((wrap64 ((bt106.1.length : Int) + 1)) + (t111.length : Int))) then (if 0 ≤ (bt106.1.length : Int) then (if (bt106.1.length : Int) < (t123.length : Int) then (if ((rd_T31 t123 (bt106.1.length : Int)).f0) = 5 then (drachmlaw08_LexParts.j0 k t102 t104 bt106.1 t111 t123 (((rd_T31 t123 (bt106.1.length : Int)).f1) != (t104.size : Int))) else (drachmlaw08_LexParts.j0 k t102 t104 bt106.1 t111 t123 true)) else (none)) else (none)) else (drachmlaw08_LexParts.j0 k t102 t104 bt106.1 t111 t123 true))) else (none)) else (none))))) else (if t102 = true then (some ((bt106.1.length : Int) == 0)) else (none)))))) = some r := H
 have A4 := Aside0.mk A40
 clear A40
 replace H := Option.bind_eq_some_iff.mp H
 obtain ⟨t104, A50, H⟩ := H
 replace H : ((drachmlaw08_short.f a1_1 60).bind fun t105 => ((lex_Lex.f (wrap64 (1 + t103)) t104).bind fun bt106 => (if bt106.2.2 = 0 then ((drachmlaw08_each.f (wrap64 (1 + t103)) t105).bind fun t111 => ((drachmref07_Of.f (wrap64 (1 + t103))).bind fun bt114 => ((some (([bt114.2.2.1] : List Int) : List Int)).bind fun y120 => (if t104.size + (strOfNums y120).size ≤ 9223372036854775807 then (if (t104 ++ (strOfNums y120)).size + t105.size ≤ 9223372036854775807 then ((drachmlaw08_each.f (wrap64 (1 + t103)) ((t104 ++ (strOfNums y120)) ++ t105)).bind fun t123 => (if (t123.length : Int) = (wrap64 ((wrap64 ((bt106.1.length : Int) + 1)) + (t111.length : Int))) then (if 0 ≤ (bt106.1.length : Int) then (if (bt106.1.length : Int) < (t123.length : Int) then (if ((rd_T31 t123 (bt106.1.length : Int)).f0) = 5 then (drachmlaw08_LexParts.j0 k t102 t104 bt106.1 t111 t123 (((rd_T31 t123 (bt106.1.length : Int)).f1) != (t104.size : Int))) else (drachmlaw08_LexParts.j0 k t102 t104 bt106.1 t111 t123 true)) else (none)) else (none)) else (drachmlaw08_LexParts.j0 k t102 t104 bt106.1 t111 t123 true))) else (none)) else (none))))) else (if t102 = true then (some ((bt106.1.length : Int) == 0)) else (none))))) = some r := H
 have A5 := Aside0.mk A50
 clear A50
 replace H := Option.bind_eq_some_iff.mp H
 obtain ⟨t105, A60, H⟩ := H
 replace H : ((lex_Lex.f (wrap64 (1 + t103)) t104).bind fun bt106 => (if bt106.2.2 = 0 then ((drachmlaw08_each.f (wrap64 (1 + t103)) t105).bind fun t111 => ((drachmref07_Of.f (wrap64 (1 + t103))).bind fun bt114 => ((some (([bt114.2.2.1] : List Int) : List Int)).bind fun y120 => (if t104.size + (strOfNums y120).size ≤ 9223372036854775807 then (if (t104 ++ (strOfNums y120)).size + t105.size ≤ 9223372036854775807 then ((drachmlaw08_each.f (wrap64 (1 + t103)) ((t104 ++ (strOfNums y120)) ++ t105)).bind fun t123 => (if (t123.length : Int) = (wrap64 ((wrap64 ((bt106.1.length : Int) + 1)) + (t111.length : Int))) then (if 0 ≤ (bt106.1.length : Int) then (if (bt106.1.length : Int) < (t123.length : Int) then (if ((rd_T31 t123 (bt106.1.length : Int)).f0) = 5 then (drachmlaw08_LexParts.j0 k t102 t104 bt106.1 t111 t123 (((rd_T31 t123 (bt106.1.length : Int)).f1) != (t104.size : Int))) else (drachmlaw08_LexParts.j0 k t102 t104 bt106.1 t111 t123 true)) else (none)) else (none)) else (drachmlaw08_LexParts.j0 k t102 t104 bt106.1 t111 t123 true))) else (none)) else (none))))) else (if t102 = true then (some ((bt106.1.length : Int) == 0)) else (none)))) = some r := H
 have A6 := Aside0.mk A60
 clear A60
 replace H := Option.bind_eq_some_iff.mp H
 obtain ⟨⟨t106, t107, t108⟩, A70, H⟩ := H
 replace H : (if t108 = 0 then ((drachmlaw08_each.f (wrap64 (1 + t103)) t105).bind fun t111 => ((drachmref07_Of.f (wrap64 (1 + t103))).bind fun bt114 => ((some (([bt114.2.2.1] : List Int) : List Int)).bind fun y120 => (if t104.size + (strOfNums y120).size ≤ 9223372036854775807 then (if (t104 ++ (strOfNums y120)).size + t105.size ≤ 9223372036854775807 then ((drachmlaw08_each.f (wrap64 (1 + t103)) ((t104 ++ (strOfNums y120)) ++ t105)).bind fun t123 => (if (t123.length : Int) = (wrap64 ((wrap64 ((t106.length : Int) + 1)) + (t111.length : Int))) then (if 0 ≤ (t106.length : Int) then (if (t106.length : Int) < (t123.length : Int) then (if ((rd_T31 t123 (t106.length : Int)).f0) = 5 then (drachmlaw08_LexParts.j0 k t102 t104 t106 t111 t123 (((rd_T31 t123 (t106.length : Int)).f1) != (t104.size : Int))) else (drachmlaw08_LexParts.j0 k t102 t104 t106 t111 t123 true)) else (none)) else (none)) else (drachmlaw08_LexParts.j0 k t102 t104 t106 t111 t123 true))) else (none)) else (none))))) else (if t102 = true then (some ((t106.length : Int) == 0)) else (none))) = some r := H
 have A7 := Aside0.mk A70
 clear A70
 by_cases c8 : t108 = 0
 ·rw [if_pos c8] at H
  have c8b0 : (t108 == 0) = true := beq_iff_eq.mpr c8
  have c8b1 : (t108 != 0) = false := bne_eq_false_iff_eq.mpr c8
  clear c8
  replace H := Option.bind_eq_some_iff.mp H
  obtain ⟨t111, A90, H⟩ := H
  replace H : ((drachmref07_Of.f (wrap64 (1 + t103))).bind fun bt114 => ((some (([bt114.2.2.1] : List Int) : List Int)).bind fun y120 => (if t104.size + (strOfNums y120).size ≤ 9223372036854775807 then (if (t104 ++ (strOfNums y120)).size + t105.size ≤ 9223372036854775807 then ((drachmlaw08_each.f (wrap64 (1 + t103)) ((t104 ++ (strOfNums y120)) ++ t105)).bind fun t123 => (if (t123.length : Int) = (wrap64 ((wrap64 ((t106.length : Int) + 1)) + (t111.length : Int))) then (if 0 ≤ (t106.length : Int) then (if (t106.length : Int) < (t123.length : Int) then (if ((rd_T31 t123 (t106.length : Int)).f0) = 5 then (drachmlaw08_LexParts.j0 k t102 t104 t106 t111 t123 (((rd_T31 t123 (t106.length : Int)).f1) != (t104.size : Int))) else (drachmlaw08_LexParts.j0 k t102 t104 t106 t111 t123 true)) else (none)) else (none)) else (drachmlaw08_LexParts.j0 k t102 t104 t106 t111 t123 true))) else (none)) else (none)))) = some r := H
  have A9 := Aside0.mk A90
  clear A90
  replace H := Option.bind_eq_some_iff.mp H
  obtain ⟨⟨t114, t115, t116, t117, t118, t119⟩, A100, H⟩ := H
  replace H : ((some (([t116] : List Int) : List Int)).bind fun y120 => (if t104.size + (strOfNums y120).size ≤ 9223372036854775807 then (if (t104 ++ (strOfNums y120)).size + t105.size ≤ 9223372036854775807 then ((drachmlaw08_each.f (wrap64 (1 + t103)) ((t104 ++ (strOfNums y120)) ++ t105)).bind fun t123 => (if (t123.length : Int) = (wrap64 ((wrap64 ((t106.length : Int) + 1)) + (t111.length : Int))) then (if 0 ≤ (t106.length : Int) then (if (t106.length : Int) < (t123.length : Int) then (if ((rd_T31 t123 (t106.length : Int)).f0) = 5 then (drachmlaw08_LexParts.j0 k t102 t104 t106 t111 t123 (((rd_T31 t123 (t106.length : Int)).f1) != (t104.size : Int))) else (drachmlaw08_LexParts.j0 k t102 t104 t106 t111 t123 true)) else (none)) else (none)) else (drachmlaw08_LexParts.j0 k t102 t104 t106 t111 t123 true))) else (none)) else (none))) = some r := H
  have A10 := Aside0.mk A100
  clear A100
  obtain ⟨y120, hy120⟩ : ∃ y_ : List Int, y_ = (([t116] : List Int)) := ⟨_, rfl⟩
  replace H : (if t104.size + (strOfNums y120).size ≤ 9223372036854775807 then (if (t104 ++ (strOfNums y120)).size + t105.size ≤ 9223372036854775807 then ((drachmlaw08_each.f (wrap64 (1 + t103)) ((t104 ++ (strOfNums y120)) ++ t105)).bind fun t123 => (if (t123.length : Int) = (wrap64 ((wrap64 ((t106.length : Int) + 1)) + (t111.length : Int))) then (if 0 ≤ (t106.length : Int) then (if (t106.length : Int) < (t123.length : Int) then (if ((rd_T31 t123 (t106.length : Int)).f0) = 5 then (drachmlaw08_LexParts.j0 k t102 t104 t106 t111 t123 (((rd_T31 t123 (t106.length : Int)).f1) != (t104.size : Int))) else (drachmlaw08_LexParts.j0 k t102 t104 t106 t111 t123 true)) else (none)) else (none)) else (drachmlaw08_LexParts.j0 k t102 t104 t106 t111 t123 true))) else (none)) else (none)) = some r := by first | (rw [hy120]; with_reducible exact H) | (have H2_ := (Option.bind_some _ _).symm.trans H; rw [hy120]; with_reducible exact H2_) | (have H2_ := (Option.bind_some _ _).symm.trans H; with_reducible exact H2_) | with_reducible exact H | (rw [hy120]; exact H) | exact H
  have Ny120 := Aside0.mk hy120
  clear hy120
  by_cases c11 : t104.size + (strOfNums y120).size ≤ 9223372036854775807
  ·rw [if_pos c11] at H
   have c11b0 := eq_true c11
   have c11b1 : decide (t104.size + (strOfNums y120).size ≤ 9223372036854775807) = true := decide_eq_true c11
   try have c11b2 : (9223372036854775807 < t104.size + (strOfNums y120).size) = False := eq_false (Nat.not_lt.2 c11)
   by_cases c12 : (t104 ++ (strOfNums y120)).size + t105.size ≤ 9223372036854775807
   ·rw [if_pos c12] at H
    have c12b0 := eq_true c12
    have c12b1 : decide ((t104 ++ (strOfNums y120)).size + t105.size ≤ 9223372036854775807) = true := decide_eq_true c12
    try have c12b2 : (9223372036854775807 < (t104 ++ (strOfNums y120)).size + t105.size) = False := eq_false (Nat.not_lt.2 c12)
    (try have c12b3 : (9223372036854775807 < t104.size + (strOfNums y120).size + t105.size) = False := eq_false (by have h_ := c12; simp only [ByteArray.size_append] at h_; omega))
    replace H := Option.bind_eq_some_iff.mp H
    obtain ⟨t123, A130, H⟩ := H
    replace H : (if (t123.length : Int) = (wrap64 ((wrap64 ((t106.length : Int) + 1)) + (t111.length : Int))) then (if 0 ≤ (t106.length : Int) then (if (t106.length : Int) < (t123.length : Int) then (if ((rd_T31 t123 (t106.length : Int)).f0) = 5 then (drachmlaw08_LexParts.j0 k t102 t104 t106 t111 t123 (((rd_T31 t123 (t106.length : Int)).f1) != (t104.size : Int))) else (drachmlaw08_LexParts.j0 k t102 t104 t106 t111 t123 true)) else (none)) else (none)) else (drachmlaw08_LexParts.j0 k t102 t104 t106 t111 t123 true)) = some r := H
    have A13 := Aside0.mk A130
    clear A130
    have HC14 := Aside0.mk H
    clear H
    go_enter Tryd.func8, Tryd.ntmps8
    go_upto_region 10 with (first | ((with_reducible refine gate_dst (N := 3) rfl ?_); (try (refine gate_guard (by rfl) ?_; dsimp only)); refine box_event ?hg (N := 3) ?hd (cs := #[.string a1_0, .string a1_1]) (t := 22) ?hr ?_; (case hd => rfl); (case hg => rfl); (case hr => first | (go_simp; done) | (go_simp; rfl)); intro gb101 hg w15 hbox hb; have n0_ := sb HB hb; have n1_ := Aside0.mk (hbox); have n2_ := Aside0.mk ((by rw [hg]; exact (below_size (bl HB.out)) : w.heap.size ≤ gb101)); have n3_ := Aside0.mk ((by rw [hg]; exact (below_size (bl HB.out)) : w.heap.size ≤ gb101)); clear HB; have HB := n0_; have BK101 := n1_; have GW101 := n2_; have GE101 := n3_; clear n0_ n1_ n2_ n3_; clear hb hbox hg) | (go_at_call 10; (with_reducible refine (drachmlaw08_awake.calls  t102 _ (Glob.use hG (by decide) (bl HB.out)) A3.out).mono ?_); rintro e w16 ⟨rfl, hb⟩; replace BK101 := kb BK101 hb; replace HB := sb HB hb; (try clear hb); (try clear hb2); (try clear hk); (try clear hi)) | (go_at_call 12; (with_reducible refine (drachmlaw08_rest.calls a0 5 t103 _ A4.out).mono ?_); rintro e w' ⟨rfl, ⟨nd, rfl⟩⟩; (try first | exact ⟨rfl, _, World.drewN_drewN _ _ _⟩ | exact ⟨rfl, _, Eq.trans (World.drewN_drewN _ _ _) (congrArg (World.drewN _) (Nat.add_assoc _ _ _))⟩); obtain ⟨hcz17_0, hcz17_1⟩ := hc2 BK101.out; obtain ⟨hfz17_0, hfz17_1⟩ := hf2 BK101.out) | (go_at_call 11; (with_reducible refine (drachmlaw08_short.calls a1_0 60 t104 _ A5.out).mono ?_); rintro e w' ⟨rfl, ⟨nd, rfl⟩⟩; (try first | exact ⟨rfl, _, World.drewN_drewN _ _ _⟩ | exact ⟨rfl, _, Eq.trans (World.drewN_drewN _ _ _) (congrArg (World.drewN _) (Nat.add_assoc _ _ _))⟩)) | (go_at_call 11; (with_reducible refine (drachmlaw08_short.calls a1_1 60 t105 _ A6.out).mono ?_); rintro e w' ⟨rfl, ⟨nd, rfl⟩⟩; (try first | exact ⟨rfl, _, World.drewN_drewN _ _ _⟩ | exact ⟨rfl, _, Eq.trans (World.drewN_drewN _ _ _) (congrArg (World.drewN _) (Nat.add_assoc _ _ _))⟩)) | (go_at_call 18; (with_reducible refine (lex_Lex.calls (wrap64 (1 + t103)) t104 t106 t107 t108 _ (Glob.use hG (by decide) (bl HB.out)) A7.out).mono ?_); rintro e w18 ⟨v109, rfl, ho0, hb⟩; have HO110 := Aside0.mk (Kd.R_lower ho0 (below_size (bl HB.out))); replace BK101 := kb BK101 hb; replace HB := sb HB hb; (try clear hb); (try clear hb2); (try clear hk); (try clear hi); (try clear ho0)) | (go_at_call 14; (with_reducible refine (drachmlaw08_each.calls (wrap64 (1 + t103)) t105 t111 _ (Glob.use hG (by decide) (bl HB.out)) A9.out).mono ?_); rintro e w19 ⟨v112, rfl, ho0, hb⟩; have n0_ := Aside0.mk (Kd.R_elder' (by (with_reducible repeat (first | apply Kd.R_alloc | apply Kd.R_drewN | apply Kd.R_drew)); exact HO110.out) (Kd.R_base ho0) hb); have n1_ := Aside0.mk (Kd.R_lower (Kd.R_new' ho0 (Kd.R_lt (by (with_reducible repeat (first | apply Kd.R_alloc | apply Kd.R_drewN | apply Kd.R_drew)); exact HO110.out))) (below_size (bl HB.out))); have n2_ := kb BK101 hb; have n3_ := sb HB hb; clear HO110; clear BK101; clear HB; have HO110 := n0_; have HO113 := n1_; have BK101 := n2_; have HB := n3_; clear n0_ n1_ n2_ n3_; (try clear hb); (try clear hb2); (try clear hk); (try clear hi); (try clear ho0)) | (go_at_call 17; (with_reducible refine (drachmref07_Of.calls (wrap64 (1 + t103)) t114 t115 t116 t117 t118 t119 _ A10.out).mono ?_); rintro e w20 ⟨rfl, hb⟩; have n0_ := Aside0.mk (Kd.R_below (by (with_reducible repeat (first | apply Kd.R_alloc | apply Kd.R_drewN | apply Kd.R_drew)); exact HO110.out) hb); have n1_ := Aside0.mk (Kd.R_below (by (with_reducible repeat (first | apply Kd.R_alloc | apply Kd.R_drewN | apply Kd.R_drew)); exact HO113.out) hb); have n2_ := kb BK101 hb; have n3_ := sb HB hb; clear HO110; clear HO113; clear BK101; clear HB; have HO110 := n0_; have HO113 := n1_; have BK101 := n2_; have HB := n3_; clear n0_ n1_ n2_ n3_; (try clear hb); (try clear hb2); (try clear hk); (try clear hi)) | ((with_reducible refine gate_dst (N := 49) rfl ?_); (try (refine gate_guard (by rfl) ?_; dsimp only)); refine Kd.R_lit (Kd.int .u8) _ 5 ?hg (N := 49) ?hd (xs := ([t116] : List Int)) (inner := [.int .u8 t116]) (ok := fun _ => True) (okp := fun _ => True) ?hr ?hp (fun _ hk => hk) trivial (Below.refl _ _) (Nat.le_refl _) (by simp) ?_; (case hd => rfl); (case hg => rfl); (case hr => first | (go_simp; done) | (go_simp; rfl)); (case hp => exact (Reps.one (show Kd.M (Kd.int .u8) _ _ _ t116 [.int .u8 t116] from rfl) (Reps.none _ _))); intro v121 w21 ho22 hb hg_ hnew_; clear hg_ hnew_; (first | rw [← Ny120.out] at ho22 | (simp only [Int.reduceToNat] at ho22; rw [← Ny120.out] at ho22)); have n0_ := Aside0.mk (Kd.R_below (by (with_reducible repeat (first | apply Kd.R_alloc | apply Kd.R_drewN | apply Kd.R_drew)); exact HO110.out) hb); have n1_ := Aside0.mk (Kd.R_below (by (with_reducible repeat (first | apply Kd.R_alloc | apply Kd.R_drewN | apply Kd.R_drew)); exact HO113.out) hb); have n2_ := Aside0.mk (Kd.R_lower ho22 (below_size (bl HB.out))); have n3_ := kb BK101 hb; have n4_ := sb HB hb; clear HO110; clear HO113; clear BK101; clear HB; have HO110 := n0_; have HO113 := n1_; have HO122 := n2_; have BK101 := n3_; have HB := n4_; clear n0_ n1_ n2_ n3_ n4_; clear hb ho22; have hcv23 := own_string (P := Tryd.prog) Tryd.underlying43 Tryd.underlying5 Tryd.underlying9 (Kd.own_of_R HO122.out)) | (go_at_call 14; (with_reducible refine (drachmlaw08_each.calls (wrap64 (1 + t103)) ((t104 ++ (strOfNums y120)) ++ t105) t123 _ (Glob.use hG (by decide) (bl HB.out)) A13.out).mono ?_); rintro e w24 ⟨v124, rfl, ho0, hb⟩; have n0_ := Aside0.mk (Kd.R_elder' (by (with_reducible repeat (first | apply Kd.R_alloc | apply Kd.R_drewN | apply Kd.R_drew)); exact HO110.out) (Kd.R_base ho0) hb); have n1_ := Aside0.mk (Kd.R_elder' (by (with_reducible repeat (first | apply Kd.R_alloc | apply Kd.R_drewN | apply Kd.R_drew)); exact HO113.out) (Kd.R_base ho0) hb); have n2_ := Aside0.mk (Kd.R_below (by (with_reducible repeat (first | apply Kd.R_alloc | apply Kd.R_drewN | apply Kd.R_drew)); exact HO122.out) hb); have n3_ := Aside0.mk (Kd.R_lower (Kd.R_new' (Kd.R_new' ho0 (Kd.R_lt (by (with_reducible repeat (first | apply Kd.R_alloc | apply Kd.R_drewN | apply Kd.R_drew)); exact HO110.out))) (Kd.R_lt (by (with_reducible repeat (first | apply Kd.R_alloc | apply Kd.R_drewN | apply Kd.R_drew)); exact HO113.out))) (below_size (bl HB.out))); have n4_ := kb BK101 hb; have n5_ := sb HB hb; clear HO110; clear HO113; clear HO122; clear BK101; clear HB; have HO110 := n0_; have HO113 := n1_; have HO122 := n2_; have HO125 := n3_; have BK101 := n4_; have HB := n5_; clear n0_ n1_ n2_ n3_ n4_ n5_; (try clear hb); (try clear hb2); (try clear hk); (try clear hi); (try clear ho0)))
    repeat (go_quiet (first | ((with_reducible refine gate_dst (N := 3) rfl ?_); (try (refine gate_guard (by rfl) ?_; dsimp only)); refine box_event ?hg (N := 3) ?hd (cs := #[.string a1_0, .string a1_1]) (t := 22) ?hr ?_; (case hd => rfl); (case hg => rfl); (case hr => first | (go_simp; done) | (go_simp; rfl)); intro gb101 hg w15 hbox hb; have n0_ := sb HB hb; have n1_ := Aside0.mk (hbox); have n2_ := Aside0.mk ((by rw [hg]; exact (below_size (bl HB.out)) : w.heap.size ≤ gb101)); have n3_ := Aside0.mk ((by rw [hg]; exact (below_size (bl HB.out)) : w.heap.size ≤ gb101)); clear HB; have HB := n0_; have BK101 := n1_; have GW101 := n2_; have GE101 := n3_; clear n0_ n1_ n2_ n3_; clear hb hbox hg) | (go_at_call 10; (with_reducible refine (drachmlaw08_awake.calls  t102 _ (Glob.use hG (by decide) (bl HB.out)) A3.out).mono ?_); rintro e w16 ⟨rfl, hb⟩; replace BK101 := kb BK101 hb; replace HB := sb HB hb; (try clear hb); (try clear hb2); (try clear hk); (try clear hi)) | (go_at_call 12; (with_reducible refine (drachmlaw08_rest.calls a0 5 t103 _ A4.out).mono ?_); rintro e w' ⟨rfl, ⟨nd, rfl⟩⟩; (try first | exact ⟨rfl, _, World.drewN_drewN _ _ _⟩ | exact ⟨rfl, _, Eq.trans (World.drewN_drewN _ _ _) (congrArg (World.drewN _) (Nat.add_assoc _ _ _))⟩); obtain ⟨hcz17_0, hcz17_1⟩ := hc2 BK101.out; obtain ⟨hfz17_0, hfz17_1⟩ := hf2 BK101.out) | (go_at_call 11; (with_reducible refine (drachmlaw08_short.calls a1_0 60 t104 _ A5.out).mono ?_); rintro e w' ⟨rfl, ⟨nd, rfl⟩⟩; (try first | exact ⟨rfl, _, World.drewN_drewN _ _ _⟩ | exact ⟨rfl, _, Eq.trans (World.drewN_drewN _ _ _) (congrArg (World.drewN _) (Nat.add_assoc _ _ _))⟩)) | (go_at_call 11; (with_reducible refine (drachmlaw08_short.calls a1_1 60 t105 _ A6.out).mono ?_); rintro e w' ⟨rfl, ⟨nd, rfl⟩⟩; (try first | exact ⟨rfl, _, World.drewN_drewN _ _ _⟩ | exact ⟨rfl, _, Eq.trans (World.drewN_drewN _ _ _) (congrArg (World.drewN _) (Nat.add_assoc _ _ _))⟩)) | (go_at_call 18; (with_reducible refine (lex_Lex.calls (wrap64 (1 + t103)) t104 t106 t107 t108 _ (Glob.use hG (by decide) (bl HB.out)) A7.out).mono ?_); rintro e w18 ⟨v109, rfl, ho0, hb⟩; have HO110 := Aside0.mk (Kd.R_lower ho0 (below_size (bl HB.out))); replace BK101 := kb BK101 hb; replace HB := sb HB hb; (try clear hb); (try clear hb2); (try clear hk); (try clear hi); (try clear ho0)) | (go_at_call 14; (with_reducible refine (drachmlaw08_each.calls (wrap64 (1 + t103)) t105 t111 _ (Glob.use hG (by decide) (bl HB.out)) A9.out).mono ?_); rintro e w19 ⟨v112, rfl, ho0, hb⟩; have n0_ := Aside0.mk (Kd.R_elder' (by (with_reducible repeat (first | apply Kd.R_alloc | apply Kd.R_drewN | apply Kd.R_drew)); exact HO110.out) (Kd.R_base ho0) hb); have n1_ := Aside0.mk (Kd.R_lower (Kd.R_new' ho0 (Kd.R_lt (by (with_reducible repeat (first | apply Kd.R_alloc | apply Kd.R_drewN | apply Kd.R_drew)); exact HO110.out))) (below_size (bl HB.out))); have n2_ := kb BK101 hb; have n3_ := sb HB hb; clear HO110; clear BK101; clear HB; have HO110 := n0_; have HO113 := n1_; have BK101 := n2_; have HB := n3_; clear n0_ n1_ n2_ n3_; (try clear hb); (try clear hb2); (try clear hk); (try clear hi); (try clear ho0)) | (go_at_call 17; (with_reducible refine (drachmref07_Of.calls (wrap64 (1 + t103)) t114 t115 t116 t117 t118 t119 _ A10.out).mono ?_); rintro e w20 ⟨rfl, hb⟩; have n0_ := Aside0.mk (Kd.R_below (by (with_reducible repeat (first | apply Kd.R_alloc | apply Kd.R_drewN | apply Kd.R_drew)); exact HO110.out) hb); have n1_ := Aside0.mk (Kd.R_below (by (with_reducible repeat (first | apply Kd.R_alloc | apply Kd.R_drewN | apply Kd.R_drew)); exact HO113.out) hb); have n2_ := kb BK101 hb; have n3_ := sb HB hb; clear HO110; clear HO113; clear BK101; clear HB; have HO110 := n0_; have HO113 := n1_; have BK101 := n2_; have HB := n3_; clear n0_ n1_ n2_ n3_; (try clear hb); (try clear hb2); (try clear hk); (try clear hi)) | ((with_reducible refine gate_dst (N := 49) rfl ?_); (try (refine gate_guard (by rfl) ?_; dsimp only)); refine Kd.R_lit (Kd.int .u8) _ 5 ?hg (N := 49) ?hd (xs := ([t116] : List Int)) (inner := [.int .u8 t116]) (ok := fun _ => True) (okp := fun _ => True) ?hr ?hp (fun _ hk => hk) trivial (Below.refl _ _) (Nat.le_refl _) (by simp) ?_; (case hd => rfl); (case hg => rfl); (case hr => first | (go_simp; done) | (go_simp; rfl)); (case hp => exact (Reps.one (show Kd.M (Kd.int .u8) _ _ _ t116 [.int .u8 t116] from rfl) (Reps.none _ _))); intro v121 w21 ho22 hb hg_ hnew_; clear hg_ hnew_; (first | rw [← Ny120.out] at ho22 | (simp only [Int.reduceToNat] at ho22; rw [← Ny120.out] at ho22)); have n0_ := Aside0.mk (Kd.R_below (by (with_reducible repeat (first | apply Kd.R_alloc | apply Kd.R_drewN | apply Kd.R_drew)); exact HO110.out) hb); have n1_ := Aside0.mk (Kd.R_below (by (with_reducible repeat (first | apply Kd.R_alloc | apply Kd.R_drewN | apply Kd.R_drew)); exact HO113.out) hb); have n2_ := Aside0.mk (Kd.R_lower ho22 (below_size (bl HB.out))); have n3_ := kb BK101 hb; have n4_ := sb HB hb; clear HO110; clear HO113; clear BK101; clear HB; have HO110 := n0_; have HO113 := n1_; have HO122 := n2_; have BK101 := n3_; have HB := n4_; clear n0_ n1_ n2_ n3_ n4_; clear hb ho22; have hcv23 := own_string (P := Tryd.prog) Tryd.underlying43 Tryd.underlying5 Tryd.underlying9 (Kd.own_of_R HO122.out)) | (go_at_call 14; (with_reducible refine (drachmlaw08_each.calls (wrap64 (1 + t103)) ((t104 ++ (strOfNums y120)) ++ t105) t123 _ (Glob.use hG (by decide) (bl HB.out)) A13.out).mono ?_); rintro e w24 ⟨v124, rfl, ho0, hb⟩; have n0_ := Aside0.mk (Kd.R_elder' (by (with_reducible repeat (first | apply Kd.R_alloc | apply Kd.R_drewN | apply Kd.R_drew)); exact HO110.out) (Kd.R_base ho0) hb); have n1_ := Aside0.mk (Kd.R_elder' (by (with_reducible repeat (first | apply Kd.R_alloc | apply Kd.R_drewN | apply Kd.R_drew)); exact HO113.out) (Kd.R_base ho0) hb); have n2_ := Aside0.mk (Kd.R_below (by (with_reducible repeat (first | apply Kd.R_alloc | apply Kd.R_drewN | apply Kd.R_drew)); exact HO122.out) hb); have n3_ := Aside0.mk (Kd.R_lower (Kd.R_new' (Kd.R_new' ho0 (Kd.R_lt (by (with_reducible repeat (first | apply Kd.R_alloc | apply Kd.R_drewN | apply Kd.R_drew)); exact HO110.out))) (Kd.R_lt (by (with_reducible repeat (first | apply Kd.R_alloc | apply Kd.R_drewN | apply Kd.R_drew)); exact HO113.out))) (below_size (bl HB.out))); have n4_ := kb BK101 hb; have n5_ := sb HB hb; clear HO110; clear HO113; clear HO122; clear BK101; clear HB; have HO110 := n0_; have HO113 := n1_; have HO122 := n2_; have HO125 := n3_; have BK101 := n4_; have HB := n5_; clear n0_ n1_ n2_ n3_ n4_ n5_; (try clear hb); (try clear hb2); (try clear hk); (try clear hi); (try clear ho0))); go_upto_region 10 with (first | ((with_reducible refine gate_dst (N := 3) rfl ?_); (try (refine gate_guard (by rfl) ?_; dsimp only)); refine box_event ?hg (N := 3) ?hd (cs := #[.string a1_0, .string a1_1]) (t := 22) ?hr ?_; (case hd => rfl); (case hg => rfl); (case hr => first | (go_simp; done) | (go_simp; rfl)); intro gb101 hg w15 hbox hb; have n0_ := sb HB hb; have n1_ := Aside0.mk (hbox); have n2_ := Aside0.mk ((by rw [hg]; exact (below_size (bl HB.out)) : w.heap.size ≤ gb101)); have n3_ := Aside0.mk ((by rw [hg]; exact (below_size (bl HB.out)) : w.heap.size ≤ gb101)); clear HB; have HB := n0_; have BK101 := n1_; have GW101 := n2_; have GE101 := n3_; clear n0_ n1_ n2_ n3_; clear hb hbox hg) | (go_at_call 10; (with_reducible refine (drachmlaw08_awake.calls  t102 _ (Glob.use hG (by decide) (bl HB.out)) A3.out).mono ?_); rintro e w16 ⟨rfl, hb⟩; replace BK101 := kb BK101 hb; replace HB := sb HB hb; (try clear hb); (try clear hb2); (try clear hk); (try clear hi)) | (go_at_call 12; (with_reducible refine (drachmlaw08_rest.calls a0 5 t103 _ A4.out).mono ?_); rintro e w' ⟨rfl, ⟨nd, rfl⟩⟩; (try first | exact ⟨rfl, _, World.drewN_drewN _ _ _⟩ | exact ⟨rfl, _, Eq.trans (World.drewN_drewN _ _ _) (congrArg (World.drewN _) (Nat.add_assoc _ _ _))⟩); obtain ⟨hcz17_0, hcz17_1⟩ := hc2 BK101.out; obtain ⟨hfz17_0, hfz17_1⟩ := hf2 BK101.out) | (go_at_call 11; (with_reducible refine (drachmlaw08_short.calls a1_0 60 t104 _ A5.out).mono ?_); rintro e w' ⟨rfl, ⟨nd, rfl⟩⟩; (try first | exact ⟨rfl, _, World.drewN_drewN _ _ _⟩ | exact ⟨rfl, _, Eq.trans (World.drewN_drewN _ _ _) (congrArg (World.drewN _) (Nat.add_assoc _ _ _))⟩)) | (go_at_call 11; (with_reducible refine (drachmlaw08_short.calls a1_1 60 t105 _ A6.out).mono ?_); rintro e w' ⟨rfl, ⟨nd, rfl⟩⟩; (try first | exact ⟨rfl, _, World.drewN_drewN _ _ _⟩ | exact ⟨rfl, _, Eq.trans (World.drewN_drewN _ _ _) (congrArg (World.drewN _) (Nat.add_assoc _ _ _))⟩)) | (go_at_call 18; (with_reducible refine (lex_Lex.calls (wrap64 (1 + t103)) t104 t106 t107 t108 _ (Glob.use hG (by decide) (bl HB.out)) A7.out).mono ?_); rintro e w18 ⟨v109, rfl, ho0, hb⟩; have HO110 := Aside0.mk (Kd.R_lower ho0 (below_size (bl HB.out))); replace BK101 := kb BK101 hb; replace HB := sb HB hb; (try clear hb); (try clear hb2); (try clear hk); (try clear hi); (try clear ho0)) | (go_at_call 14; (with_reducible refine (drachmlaw08_each.calls (wrap64 (1 + t103)) t105 t111 _ (Glob.use hG (by decide) (bl HB.out)) A9.out).mono ?_); rintro e w19 ⟨v112, rfl, ho0, hb⟩; have n0_ := Aside0.mk (Kd.R_elder' (by (with_reducible repeat (first | apply Kd.R_alloc | apply Kd.R_drewN | apply Kd.R_drew)); exact HO110.out) (Kd.R_base ho0) hb); have n1_ := Aside0.mk (Kd.R_lower (Kd.R_new' ho0 (Kd.R_lt (by (with_reducible repeat (first | apply Kd.R_alloc | apply Kd.R_drewN | apply Kd.R_drew)); exact HO110.out))) (below_size (bl HB.out))); have n2_ := kb BK101 hb; have n3_ := sb HB hb; clear HO110; clear BK101; clear HB; have HO110 := n0_; have HO113 := n1_; have BK101 := n2_; have HB := n3_; clear n0_ n1_ n2_ n3_; (try clear hb); (try clear hb2); (try clear hk); (try clear hi); (try clear ho0)) | (go_at_call 17; (with_reducible refine (drachmref07_Of.calls (wrap64 (1 + t103)) t114 t115 t116 t117 t118 t119 _ A10.out).mono ?_); rintro e w20 ⟨rfl, hb⟩; have n0_ := Aside0.mk (Kd.R_below (by (with_reducible repeat (first | apply Kd.R_alloc | apply Kd.R_drewN | apply Kd.R_drew)); exact HO110.out) hb); have n1_ := Aside0.mk (Kd.R_below (by (with_reducible repeat (first | apply Kd.R_alloc | apply Kd.R_drewN | apply Kd.R_drew)); exact HO113.out) hb); have n2_ := kb BK101 hb; have n3_ := sb HB hb; clear HO110; clear HO113; clear BK101; clear HB; have HO110 := n0_; have HO113 := n1_; have BK101 := n2_; have HB := n3_; clear n0_ n1_ n2_ n3_; (try clear hb); (try clear hb2); (try clear hk); (try clear hi)) | ((with_reducible refine gate_dst (N := 49) rfl ?_); (try (refine gate_guard (by rfl) ?_; dsimp only)); refine Kd.R_lit (Kd.int .u8) _ 5 ?hg (N := 49) ?hd (xs := ([t116] : List Int)) (inner := [.int .u8 t116]) (ok := fun _ => True) (okp := fun _ => True) ?hr ?hp (fun _ hk => hk) trivial (Below.refl _ _) (Nat.le_refl _) (by simp) ?_; (case hd => rfl); (case hg => rfl); (case hr => first | (go_simp; done) | (go_simp; rfl)); (case hp => exact (Reps.one (show Kd.M (Kd.int .u8) _ _ _ t116 [.int .u8 t116] from rfl) (Reps.none _ _))); intro v121 w21 ho22 hb hg_ hnew_; clear hg_ hnew_; (first | rw [← Ny120.out] at ho22 | (simp only [Int.reduceToNat] at ho22; rw [← Ny120.out] at ho22)); have n0_ := Aside0.mk (Kd.R_below (by (with_reducible repeat (first | apply Kd.R_alloc | apply Kd.R_drewN | apply Kd.R_drew)); exact HO110.out) hb); have n1_ := Aside0.mk (Kd.R_below (by (with_reducible repeat (first | apply Kd.R_alloc | apply Kd.R_drewN | apply Kd.R_drew)); exact HO113.out) hb); have n2_ := Aside0.mk (Kd.R_lower ho22 (below_size (bl HB.out))); have n3_ := kb BK101 hb; have n4_ := sb HB hb; clear HO110; clear HO113; clear BK101; clear HB; have HO110 := n0_; have HO113 := n1_; have HO122 := n2_; have BK101 := n3_; have HB := n4_; clear n0_ n1_ n2_ n3_ n4_; clear hb ho22; have hcv23 := own_string (P := Tryd.prog) Tryd.underlying43 Tryd.underlying5 Tryd.underlying9 (Kd.own_of_R HO122.out)) | (go_at_call 14; (with_reducible refine (drachmlaw08_each.calls (wrap64 (1 + t103)) ((t104 ++ (strOfNums y120)) ++ t105) t123 _ (Glob.use hG (by decide) (bl HB.out)) A13.out).mono ?_); rintro e w24 ⟨v124, rfl, ho0, hb⟩; have n0_ := Aside0.mk (Kd.R_elder' (by (with_reducible repeat (first | apply Kd.R_alloc | apply Kd.R_drewN | apply Kd.R_drew)); exact HO110.out) (Kd.R_base ho0) hb); have n1_ := Aside0.mk (Kd.R_elder' (by (with_reducible repeat (first | apply Kd.R_alloc | apply Kd.R_drewN | apply Kd.R_drew)); exact HO113.out) (Kd.R_base ho0) hb); have n2_ := Aside0.mk (Kd.R_below (by (with_reducible repeat (first | apply Kd.R_alloc | apply Kd.R_drewN | apply Kd.R_drew)); exact HO122.out) hb); have n3_ := Aside0.mk (Kd.R_lower (Kd.R_new' (Kd.R_new' ho0 (Kd.R_lt (by (with_reducible repeat (first | apply Kd.R_alloc | apply Kd.R_drewN | apply Kd.R_drew)); exact HO110.out))) (Kd.R_lt (by (with_reducible repeat (first | apply Kd.R_alloc | apply Kd.R_drewN | apply Kd.R_drew)); exact HO113.out))) (below_size (bl HB.out))); have n4_ := kb BK101 hb; have n5_ := sb HB hb; clear HO110; clear HO113; clear HO122; clear BK101; clear HB; have HO110 := n0_; have HO113 := n1_; have HO122 := n2_; have HO125 := n3_; have BK101 := n4_; have HB := n5_; clear n0_ n1_ n2_ n3_ n4_ n5_; (try clear hb); (try clear hb2); (try clear hk); (try clear hi); (try clear ho0))))
    (try simp only [Act.put, List.setIfInBounds_toArray, List.set_cons_zero, List.set_cons_succ])
    go_cut [83] (fun v83 wc => ∃ (kq : Nat) (x83_13 : Bool), v83 = .bool x83_13 ∧ Aside0 (drachmlaw08_LexParts.j0 kq t102 t104 t106 t111 t123 x83_13 = some r) ∧ Aside0 (kq ≤ k) ∧ Aside0 (Kd.R k31 31 wc w.heap.size (fun k_ => some k_ ≠ (v112 : Value).ownBlock ∧ some k_ ≠ (v124 : Value).ownBlock) v109 t106) ∧ Aside0 (Kd.R k31 31 wc w.heap.size (fun k_ => some k_ ≠ (v109 : Value).ownBlock ∧ some k_ ≠ (v124 : Value).ownBlock) v112 t111) ∧ Aside0 (Kd.R k31 31 wc w.heap.size (fun k_ => some k_ ≠ (v109 : Value).ownBlock ∧ some k_ ≠ (v112 : Value).ownBlock) v124 t123) ∧ Aside0 (wc.heap[gb101]? = some (.cells #[.string a1_0, .string a1_1] 22 (0, 0))) ∧ Aside0 (Below w.heap.size w wc))
    case first =>
     have H := HC14.out
     clear HC14
     by_cases c25 : (t123.length : Int) = (wrap64 ((wrap64 ((t106.length : Int) + 1)) + (t111.length : Int)))
     ·rw [if_pos c25] at H
      have c25b0 : ((t123.length : Int) == (wrap64 ((wrap64 ((t106.length : Int) + 1)) + (t111.length : Int)))) = true := beq_iff_eq.mpr c25
      have c25b1 : ((t123.length : Int) != (wrap64 ((wrap64 ((t106.length : Int) + 1)) + (t111.length : Int)))) = false := bne_eq_false_iff_eq.mpr c25
      clear c25
      (first | rw [c25b0] | (simp only [i64_w, i32_w]; rw [c25b0]) | skip)
      by_cases c26 : 0 ≤ (t106.length : Int)
      ·rw [if_pos c26] at H
       have c26b0 : decide (0 ≤ (t106.length : Int)) = true := decide_eq_true c26
       have c26b1 : decide (0 ≤ t106.length) = true := decide_eq_true (by omega)
       clear c26
       by_cases c27 : (t106.length : Int) < (t123.length : Int)
       ·rw [if_pos c27] at H
        have c27b0 : decide ((t106.length : Int) < (t123.length : Int)) = true := decide_eq_true c27
        have c27b1 : decide (t106.length < t123.length) = true := decide_eq_true (Int.ofNat_lt.mp c27)
        clear c27
        by_cases c28 : ((rd_T31 t123 (t106.length : Int)).f0) = 5
        ·rw [if_pos c28] at H
         have c28b0 : (((rd_T31 t123 (t106.length : Int)).f0) == 5) = true := beq_iff_eq.mpr c28
         have c28b1 : (((rd_T31 t123 (t106.length : Int)).f0) != 5) = false := bne_eq_false_iff_eq.mpr c28
         clear c28
         have H' := Aside0.mk H
         clear H
         obtain ⟨Ao29, co29, eo29⟩ := Kd.R_slice HO125.out
         subst eo29
         obtain ⟨Ao30, co30, eo30⟩ := Kd.R_slice HO110.out
         subst eo30
         obtain ⟨Ao31, co31, eo31⟩ := Kd.R_slice HO113.out
         subst eo31
         have p126 : 0 ≤ ((t106.length : Int) : Int) := of_decide_eq_true (by first | (with_reducible assumption) | assumption)
         have q126 : (t106.length : Int) < (t123.length : Int) := of_decide_eq_true (by first | (with_reducible assumption) | assumption)
         obtain ⟨ad126, e126, hx126_0, hx126_1, hx126_2, hx126_3⟩ := at_T31 (Kd.R_reads' HO125.out).2.2 (t106.length : Int) p126 q126
         cases e126
         (try simp only [Go.IntWalk.toNatUp] at hx126_0)
         (try simp only [Go.IntWalk.toNatUp] at hx126_1)
         (try simp only [Go.IntWalk.toNatUp] at hx126_2)
         (try simp only [Go.IntWalk.toNatUp] at hx126_3)
         replace p126 := eq_true p126
         replace q126 := eq_true q126
         have p127 : 0 ≤ ((t106.length : Int) : Int) := of_decide_eq_true (by first | (with_reducible assumption) | assumption)
         have q127 : (t106.length : Int) < (t123.length : Int) := of_decide_eq_true (by first | (with_reducible assumption) | assumption)
         obtain ⟨ad127, e127, hx127_0, hx127_1, hx127_2, hx127_3⟩ := at_T31 (Kd.R_reads' HO125.out).2.2 (t106.length : Int) p127 q127
         obtain rfl : ad126 = ad127 := (by injection e127)
         (try simp only [Go.IntWalk.toNatUp] at hx127_0)
         (try simp only [Go.IntWalk.toNatUp] at hx127_1)
         (try simp only [Go.IntWalk.toNatUp] at hx127_2)
         (try simp only [Go.IntWalk.toNatUp] at hx127_3)
         replace p127 := eq_true p127
         replace q127 := eq_true q127
         go_wp2
         repeat (go_quiet (fail); try go_wp2)
         go_meet
         case rel => exact ⟨_, ((((rd_T31 t123 (t106.length : Int)).f1) != (t104.size : Int))), (by first | rfl | (simp; done) | (simp [*]; done)), H', ⟨by first | omega | exact Nat.le_refl _⟩, ⟨by (with_reducible repeat (first | apply Kd.R_alloc | apply Kd.R_drewN | apply Kd.R_drew)); exact Kd.R_mono HO110.out (fun _ hk => ⟨hk.1.2, hk.2⟩)⟩, ⟨by (with_reducible repeat (first | apply Kd.R_alloc | apply Kd.R_drewN | apply Kd.R_drew)); exact Kd.R_mono HO113.out (fun _ hk => ⟨hk.1.2, hk.2⟩)⟩, ⟨by (with_reducible repeat (first | apply Kd.R_alloc | apply Kd.R_drewN | apply Kd.R_drew)); exact Kd.R_mono HO125.out (fun _ hk => ⟨hk.1.2, hk.2⟩)⟩, ⟨kp BK101.out⟩, ⟨bl HB.out⟩⟩
        ·rw [if_neg c28] at H
         have c28b0 : (((rd_T31 t123 (t106.length : Int)).f0) == 5) = false := beq_eq_false_iff_ne.mpr c28
         have c28b1 : (((rd_T31 t123 (t106.length : Int)).f0) != 5) = true := bne_iff_ne.mpr c28
         have H' := Aside0.mk H
         clear H
         obtain ⟨Ao32, co32, eo32⟩ := Kd.R_slice HO125.out
         subst eo32
         obtain ⟨Ao33, co33, eo33⟩ := Kd.R_slice HO110.out
         subst eo33
         obtain ⟨Ao34, co34, eo34⟩ := Kd.R_slice HO113.out
         subst eo34
         have p126 : 0 ≤ ((t106.length : Int) : Int) := of_decide_eq_true (by first | (with_reducible assumption) | assumption)
         have q126 : (t106.length : Int) < (t123.length : Int) := of_decide_eq_true (by first | (with_reducible assumption) | assumption)
         obtain ⟨ad126, e126, hx126_0, hx126_1, hx126_2, hx126_3⟩ := at_T31 (Kd.R_reads' HO125.out).2.2 (t106.length : Int) p126 q126
         cases e126
         (try simp only [Go.IntWalk.toNatUp] at hx126_0)
         (try simp only [Go.IntWalk.toNatUp] at hx126_1)
         (try simp only [Go.IntWalk.toNatUp] at hx126_2)
         (try simp only [Go.IntWalk.toNatUp] at hx126_3)
         replace p126 := eq_true p126
         replace q126 := eq_true q126
         go_wp2
         repeat (go_quiet (fail); try go_wp2)
         go_meet
         case rel => exact ⟨_, (true), (by first | rfl | (simp; done) | (simp [*]; done)), H', ⟨by first | omega | exact Nat.le_refl _⟩, ⟨by (with_reducible repeat (first | apply Kd.R_alloc | apply Kd.R_drewN | apply Kd.R_drew)); exact Kd.R_mono HO110.out (fun _ hk => ⟨hk.1.2, hk.2⟩)⟩, ⟨by (with_reducible repeat (first | apply Kd.R_alloc | apply Kd.R_drewN | apply Kd.R_drew)); exact Kd.R_mono HO113.out (fun _ hk => ⟨hk.1.2, hk.2⟩)⟩, ⟨by (with_reducible repeat (first | apply Kd.R_alloc | apply Kd.R_drewN | apply Kd.R_drew)); exact Kd.R_mono HO125.out (fun _ hk => ⟨hk.1.2, hk.2⟩)⟩, ⟨kp BK101.out⟩, ⟨bl HB.out⟩⟩
       ·rw [if_neg c27] at H
        exact absurd H (by simp)
      ·rw [if_neg c26] at H
       exact absurd H (by simp)
     ·rw [if_neg c25] at H
      have c25b0 : ((t123.length : Int) == (wrap64 ((wrap64 ((t106.length : Int) + 1)) + (t111.length : Int)))) = false := beq_eq_false_iff_ne.mpr c25
      have c25b1 : ((t123.length : Int) != (wrap64 ((wrap64 ((t106.length : Int) + 1)) + (t111.length : Int)))) = true := bne_iff_ne.mpr c25
      (first | rw [c25b0] | (simp only [i64_w, i32_w]; rw [c25b0]) | skip)
      have H' := Aside0.mk H
      clear H
      obtain ⟨Ao35, co35, eo35⟩ := Kd.R_slice HO125.out
      subst eo35
      obtain ⟨Ao36, co36, eo36⟩ := Kd.R_slice HO110.out
      subst eo36
      obtain ⟨Ao37, co37, eo37⟩ := Kd.R_slice HO113.out
      subst eo37
      go_wp2
      repeat (go_quiet (fail); try go_wp2)
      go_meet
      case rel => exact ⟨_, (true), (by first | rfl | (simp; done) | (simp [*]; done)), H', ⟨by first | omega | exact Nat.le_refl _⟩, ⟨by (with_reducible repeat (first | apply Kd.R_alloc | apply Kd.R_drewN | apply Kd.R_drew)); exact Kd.R_mono HO110.out (fun _ hk => ⟨hk.1.2, hk.2⟩)⟩, ⟨by (with_reducible repeat (first | apply Kd.R_alloc | apply Kd.R_drewN | apply Kd.R_drew)); exact Kd.R_mono HO113.out (fun _ hk => ⟨hk.1.2, hk.2⟩)⟩, ⟨by (with_reducible repeat (first | apply Kd.R_alloc | apply Kd.R_drewN | apply Kd.R_drew)); exact Kd.R_mono HO125.out (fun _ hk => ⟨hk.1.2, hk.2⟩)⟩, ⟨kp BK101.out⟩, ⟨bl HB.out⟩⟩
    case rest =>
     clear HC14
     try clear c1
     try clear p1
     try clear q1
     try clear hx1
     try clear c2
     try clear p2
     try clear hcv2
     try clear p6
     try clear c8
     try clear c8b0
     try clear c8b1
     try clear c11
     try clear c11b0
     try clear c11b1
     try clear c11b2
     try clear c12
     try clear c12b0
     try clear c12b1
     try clear c12b2
     try clear p12
     try clear q12
     try clear hx12
     try clear hcv23
     try clear c25
     try clear c25b0
     try clear c25b1
     try clear c26
     try clear c26b0
     try clear c26b1
     try clear c27
     try clear c27b0
     try clear c27b1
     try clear c28
     try clear c28b0
     try clear c28b1
     try clear hcz17_0 hcz17_1
     try clear hfz17_0 hfz17_1
     try clear hx126_0 hx126_1 hx126_2 hx126_3
     try clear hx127_0 hx127_1 hx127_2 hx127_3
     try clear p126
     try clear p127
     try clear q126
     try clear q127
     obtain ⟨kq, x83_13, rfl, HA, HJ13, HO_9, HO_12, HO_13, BK101, HB⟩ := hcut
     cases kq with
     | zero => exact absurd HA.out (by simp [drachmlaw08_LexParts.j0])
     | succ kj13 =>
      have H := HA.out
      clear HA
      simp only [drachmlaw08_LexParts.j0] at H
      by_cases c38 : x83_13 = true
      ·subst c38
       have H1 : (none) = some r := by rw [if_pos rfl] at H; exact H
       clear H
       have H := H1
       clear H1
       exact absurd H (by simp)
      ·replace c38 := Bool.eq_false_iff.mpr c38
       subst c38
       have H1 : (drachmlaw08_LexParts.l0 kj13 t102 t104 t106 t111 t123 0) = some r := by rw [if_neg (show ¬ (false = true) by decide)] at H; exact H
       clear H
       have H := H1
       clear H1
       have H' := Aside0.mk H
       clear H
       go_wp2
       repeat (go_quiet (fail); try go_wp2)
       go_loopg [14] kj13 (fun kq v14 w' => ∃ (x14_2 : Int), v14 = .int .i64 x14_2 ∧ Aside0 (drachmlaw08_LexParts.l0 kq t102 t104 t106 t111 t123 x14_2 = some r) ∧ Aside0 (kq ≤ kj13) ∧ Aside0 (Kd.R k31 31 w' w.heap.size (fun k_ => some k_ ≠ (v112 : Value).ownBlock ∧ some k_ ≠ (v124 : Value).ownBlock) v109 t106) ∧ Aside0 (Kd.R k31 31 w' w.heap.size (fun k_ => some k_ ≠ (v109 : Value).ownBlock ∧ some k_ ≠ (v124 : Value).ownBlock) v112 t111) ∧ Aside0 (Kd.R k31 31 w' w.heap.size (fun k_ => some k_ ≠ (v109 : Value).ownBlock ∧ some k_ ≠ (v112 : Value).ownBlock) v124 t123) ∧ Aside0 (w'.heap[gb101]? = some (.cells #[.string a1_0, .string a1_1] 22 (0, 0))) ∧ Aside0 (Below w.heap.size w w'))
       case atStart => exact ⟨(0), (by first | rfl | (simp; done) | (simp [*]; done)), H', ⟨Nat.le_refl _⟩, ⟨by (with_reducible repeat (first | apply Kd.R_alloc | apply Kd.R_drewN | apply Kd.R_drew)); exact HO_9.out⟩, ⟨by (with_reducible repeat (first | apply Kd.R_alloc | apply Kd.R_drewN | apply Kd.R_drew)); exact HO_12.out⟩, ⟨by (with_reducible repeat (first | apply Kd.R_alloc | apply Kd.R_drewN | apply Kd.R_drew)); exact HO_13.out⟩, ⟨kp BK101.out⟩, ⟨bl HB.out⟩⟩
       case round =>
        clear H'
        try clear c1
        try clear p1
        try clear q1
        try clear hx1
        try clear c2
        try clear p2
        try clear hcv2
        try clear c3
        try clear p6
        try clear c8
        try clear c8b0
        try clear c8b1
        try clear c11
        try clear c11b0
        try clear c11b1
        try clear c11b2
        try clear c12
        try clear c12b0
        try clear c12b1
        try clear c12b2
        try clear p12
        try clear q12
        try clear hx12
        try clear hcv23
        try clear c25
        try clear c25b0
        try clear c25b1
        try clear c26
        try clear c26b0
        try clear c26b1
        try clear c27
        try clear c27b0
        try clear c27b1
        try clear c28
        try clear c28b0
        try clear c28b1
        try clear c38
        try clear hcz17_0 hcz17_1
        try clear hfz17_0 hfz17_1
        try clear hx126_0 hx126_1 hx126_2 hx126_3
        try clear hx127_0 hx127_1 hx127_2 hx127_3
        try clear p1
        try clear p12
        try clear p126
        try clear p127
        try clear p2
        try clear p6
        try clear q1
        try clear q12
        try clear q126
        try clear q127
        obtain ⟨x14_2, rfl, HA, HK2, HO_9, HO_12, HO_13, BK101, HB⟩ := hrel
        cases gk with
        | zero => exact absurd HA.out (by simp [drachmlaw08_LexParts.l0])
        | succ k2 =>
         have H := HA.out
         clear HA
         simp only [drachmlaw08_LexParts.l0] at H
         by_cases c39 : x14_2 < (t111.length : Int)
         ·rw [if_pos c39] at H
          have c39b0 : decide (x14_2 < (t111.length : Int)) = true := decide_eq_true c39
          clear c39
          obtain ⟨ji40, hji40⟩ : ∃ j_ : Int, (wrap64 ((wrap64 ((t106.length : Int) + 1)) + x14_2)) = j_ := ⟨_, rfl⟩
          replace H : (if 0 ≤ (ji40) then (if (ji40) < (t123.length : Int) then (if 0 ≤ x14_2 then (if (!(((rd_T31 t123 (ji40)).f0) == ((rd_T31 t111 x14_2).f0)) || (!((wrap64 ((wrap64 (((rd_T31 t123 (ji40)).f1) - (t104.size : Int))) - 1)) == ((rd_T31 t111 x14_2).f1)) || (!((((rd_T31 t123 (ji40)).f2).toList) == (((rd_T31 t111 x14_2).f2).toList)) || (!(((rd_T31 t123 (ji40)).f3) == ((rd_T31 t111 x14_2).f3)))))) = true then (none) else (drachmlaw08_LexParts.l0 k2 t102 t104 t106 t111 t123 (wrap64 (x14_2 + 1)))) else (none)) else (none)) else (none)) = some r := by first | (rw [hji40] at H; exact H) | (simp only [hji40] at H ⊢; exact H)
          have hji40w : (IntKind.i64.wrap ((wrap64 ((t106.length : Int) + 1)) + x14_2)) = ji40 := (i64_w _).trans hji40
          by_cases c41 : 0 ≤ (ji40)
          ·rw [if_pos c41] at H
           have c41b0 : decide (0 ≤ (ji40)) = true := decide_eq_true c41
           clear c41
           by_cases c42 : (ji40) < (t123.length : Int)
           ·rw [if_pos c42] at H
            have c42b0 : decide ((ji40) < (t123.length : Int)) = true := decide_eq_true c42
            clear c42
            by_cases c43 : 0 ≤ x14_2
            ·rw [if_pos c43] at H
             have c43b0 : decide (0 ≤ x14_2) = true := decide_eq_true c43
             clear c43
             by_cases c44 : (!(((rd_T31 t123 (ji40)).f0) == ((rd_T31 t111 x14_2).f0)) || (!((wrap64 ((wrap64 (((rd_T31 t123 (ji40)).f1) - (t104.size : Int))) - 1)) == ((rd_T31 t111 x14_2).f1)) || (!((((rd_T31 t123 (ji40)).f2).toList) == (((rd_T31 t111 x14_2).f2).toList)) || (!(((rd_T31 t123 (ji40)).f3) == ((rd_T31 t111 x14_2).f3)))))) = true
             ·rw [if_pos c44] at H
              exact absurd H (by simp)
             ·rw [if_neg c44] at H
              have c44b0 : (!(((rd_T31 t123 (ji40)).f0) == ((rd_T31 t111 x14_2).f0)) || (!((wrap64 ((wrap64 (((rd_T31 t123 (ji40)).f1) - (t104.size : Int))) - 1)) == ((rd_T31 t111 x14_2).f1)) || (!((((rd_T31 t123 (ji40)).f2).toList) == (((rd_T31 t111 x14_2).f2).toList)) || (!(((rd_T31 t123 (ji40)).f3) == ((rd_T31 t111 x14_2).f3)))))) = false := by simpa using c44
              clear c44
              have H' := Aside0.mk H
              clear H
              obtain ⟨Ao45, co45, eo45⟩ := Kd.R_slice HO_12.out
              subst eo45
              obtain ⟨Ao46, co46, eo46⟩ := Kd.R_slice HO_9.out
              subst eo46
              obtain ⟨Ao47, co47, eo47⟩ := Kd.R_slice HO_13.out
              subst eo47
              have p128 : 0 ≤ ((ji40) : Int) := of_decide_eq_true (by first | (with_reducible assumption) | assumption)
              have q128 : (ji40) < (t123.length : Int) := of_decide_eq_true (by first | (with_reducible assumption) | assumption)
              obtain ⟨ad128, e128, hx128_0, hx128_1, hx128_2, hx128_3⟩ := at_T31 (Kd.R_reads' HO_13.out).2.2 (ji40) p128 q128
              cases e128
              replace p128 := eq_true p128
              replace q128 := eq_true q128
              go_wp2_with (first | ((with_reducible refine gate_dst (N := 15) rfl ?_); (try (refine gate_guard (by rfl) ?_; dsimp only)); refine box_event ?hg (N := 15) ?hd (cs := #[.int .i64 0, .int .i64 0, .string (⟨#[]⟩ : ByteArray), .int .i64 0]) (t := 31) ?hr ?_; (case hd => rfl); (case hg => rfl); (case hr => first | (go_simp; done) | (go_simp; rfl)); intro gb129 hg w48 hbox hb; have n0_ := Aside0.mk (Kd.R_below (Kd.R_elderB (by (with_reducible repeat (first | apply Kd.R_alloc | apply Kd.R_drewN | apply Kd.R_drew)); exact HO_9.out) gb129 (Nat.le_of_eq hg.symm)) hb); have n1_ := Aside0.mk (Kd.R_below (Kd.R_elderB (by (with_reducible repeat (first | apply Kd.R_alloc | apply Kd.R_drewN | apply Kd.R_drew)); exact HO_12.out) gb129 (Nat.le_of_eq hg.symm)) hb); have n2_ := Aside0.mk (Kd.R_below (Kd.R_elderB (by (with_reducible repeat (first | apply Kd.R_alloc | apply Kd.R_drewN | apply Kd.R_drew)); exact HO_13.out) gb129 (Nat.le_of_eq hg.symm)) hb); have n3_ := kb BK101 hb; have n4_ := sb HB hb; have n5_ := Aside0.mk (hbox); have n6_ := Aside0.mk ((by rw [hg]; exact (below_size (bl HB.out)) : w.heap.size ≤ gb129)); have n7_ := Aside0.mk ((by rw [hg]; exact (below_size (bl HB.out)) : w.heap.size ≤ gb129)); have n8_ := Aside0.mk ((by rw [hg]; exact Nat.ne_of_lt (blk_lt (kp BK101.out)) : gb101 ≠ gb129)); have n9_ := Aside0.mk ((by rw [hg]; exact Nat.ne_of_gt (blk_lt (kp BK101.out)) : gb129 ≠ gb101)); clear HO_9; clear HO_12; clear HO_13; clear BK101; clear HB; have HO_9 := n0_; have HO_12 := n1_; have HO_13 := n2_; have BK101 := n3_; have HB := n4_; have BK129 := n5_; have GW129 := n6_; have GE129 := n7_; have NB101_129 := n8_; have NB129_101 := n9_; clear n0_ n1_ n2_ n3_ n4_ n5_ n6_ n7_ n8_ n9_; clear hb hbox hg; have hnb49 := NB129_101.out; have hnc49 := NB101_129.out; obtain ⟨hcz50_0, hcz50_1, hcz50_2, hcz50_3⟩ := hc4 BK129.out; obtain ⟨hfz50_0, hfz50_1, hfz50_2, hfz50_3⟩ := hf4 BK129.out; have p130 : 0 ≤ (x14_2 : Int) := of_decide_eq_true (by first | (with_reducible assumption) | assumption); have q130 : x14_2 < (t111.length : Int) := of_decide_eq_true (by first | (with_reducible assumption) | assumption); obtain ⟨ad130, e130, hx130_0, hx130_1, hx130_2, hx130_3⟩ := at_T31 (Kd.R_reads' HO_12.out).2.2 x14_2 p130 q130; cases e130; have hn130_0 : ad130.block ≠ gb129 := (by first | exact Kd.own_blk (Kd.R_ne HO_12.out BK129.out (by decide)) | exact (HO_12.out.1 _ rfl).2); have hn130_1 : ad130.block ≠ gb129 := (by first | exact Kd.own_blk (Kd.R_ne HO_12.out BK129.out (by decide)) | exact (HO_12.out.1 _ rfl).2); have hn130_2 : ad130.block ≠ gb129 := (by first | exact Kd.own_blk (Kd.R_ne HO_12.out BK129.out (by decide)) | exact (HO_12.out.1 _ rfl).2); have hn130_3 : ad130.block ≠ gb129 := (by first | exact Kd.own_blk (Kd.R_ne HO_12.out BK129.out (by decide)) | exact (HO_12.out.1 _ rfl).2); have hn130_4 : ad130.block ≠ gb129 := (by first | exact Kd.own_blk (Kd.R_ne HO_12.out BK129.out (by decide)) | exact (HO_12.out.1 _ rfl).2); replace hx130_0 := (cell_far (p := ⟨gb129, 0, none⟩) (by first | (rw [add_block]; exact hn130_0) | (show (Addr.add _ _).block ≠ _; rw [add_block]; exact hn130_0) | exact hn130_0) (.int .i64 ((rd_T31 t123 (ji40)).f0))).trans hx130_0; replace hx130_1 := (cell_far (p := ⟨gb129, 0, none⟩) (by first | (rw [add_block]; exact hn130_0) | (show (Addr.add _ _).block ≠ _; rw [add_block]; exact hn130_0) | exact hn130_0) (.int .i64 ((rd_T31 t123 (ji40)).f0))).trans hx130_1; replace hx130_2 := (cell_far (p := ⟨gb129, 0, none⟩) (by first | (rw [add_block]; exact hn130_0) | (show (Addr.add _ _).block ≠ _; rw [add_block]; exact hn130_0) | exact hn130_0) (.int .i64 ((rd_T31 t123 (ji40)).f0))).trans hx130_2; replace hx130_3 := (cell_far (p := ⟨gb129, 0, none⟩) (by first | (rw [add_block]; exact hn130_0) | (show (Addr.add _ _).block ≠ _; rw [add_block]; exact hn130_0) | exact hn130_0) (.int .i64 ((rd_T31 t123 (ji40)).f0))).trans hx130_3; replace hx130_0 := (cell_far (p := ⟨gb129, 1, none⟩) (by first | (rw [add_block]; exact hn130_1) | (show (Addr.add _ _).block ≠ _; rw [add_block]; exact hn130_1) | exact hn130_1) (.int .i64 ((rd_T31 t123 (ji40)).f1))).trans hx130_0; replace hx130_1 := (cell_far (p := ⟨gb129, 1, none⟩) (by first | (rw [add_block]; exact hn130_1) | (show (Addr.add _ _).block ≠ _; rw [add_block]; exact hn130_1) | exact hn130_1) (.int .i64 ((rd_T31 t123 (ji40)).f1))).trans hx130_1; replace hx130_2 := (cell_far (p := ⟨gb129, 1, none⟩) (by first | (rw [add_block]; exact hn130_1) | (show (Addr.add _ _).block ≠ _; rw [add_block]; exact hn130_1) | exact hn130_1) (.int .i64 ((rd_T31 t123 (ji40)).f1))).trans hx130_2; replace hx130_3 := (cell_far (p := ⟨gb129, 1, none⟩) (by first | (rw [add_block]; exact hn130_1) | (show (Addr.add _ _).block ≠ _; rw [add_block]; exact hn130_1) | exact hn130_1) (.int .i64 ((rd_T31 t123 (ji40)).f1))).trans hx130_3; replace hx130_0 := (cell_far (p := ⟨gb129, 2, none⟩) (by first | (rw [add_block]; exact hn130_2) | (show (Addr.add _ _).block ≠ _; rw [add_block]; exact hn130_2) | exact hn130_2) (.string ((rd_T31 t123 (ji40)).f2))).trans hx130_0; replace hx130_1 := (cell_far (p := ⟨gb129, 2, none⟩) (by first | (rw [add_block]; exact hn130_2) | (show (Addr.add _ _).block ≠ _; rw [add_block]; exact hn130_2) | exact hn130_2) (.string ((rd_T31 t123 (ji40)).f2))).trans hx130_1; replace hx130_2 := (cell_far (p := ⟨gb129, 2, none⟩) (by first | (rw [add_block]; exact hn130_2) | (show (Addr.add _ _).block ≠ _; rw [add_block]; exact hn130_2) | exact hn130_2) (.string ((rd_T31 t123 (ji40)).f2))).trans hx130_2; replace hx130_3 := (cell_far (p := ⟨gb129, 2, none⟩) (by first | (rw [add_block]; exact hn130_2) | (show (Addr.add _ _).block ≠ _; rw [add_block]; exact hn130_2) | exact hn130_2) (.string ((rd_T31 t123 (ji40)).f2))).trans hx130_3; replace hx130_0 := (cell_far (p := ⟨gb129, 3, none⟩) (by first | (rw [add_block]; exact hn130_3) | (show (Addr.add _ _).block ≠ _; rw [add_block]; exact hn130_3) | exact hn130_3) (.int .i64 ((rd_T31 t123 (ji40)).f3))).trans hx130_0; replace hx130_1 := (cell_far (p := ⟨gb129, 3, none⟩) (by first | (rw [add_block]; exact hn130_3) | (show (Addr.add _ _).block ≠ _; rw [add_block]; exact hn130_3) | exact hn130_3) (.int .i64 ((rd_T31 t123 (ji40)).f3))).trans hx130_1; replace hx130_2 := (cell_far (p := ⟨gb129, 3, none⟩) (by first | (rw [add_block]; exact hn130_3) | (show (Addr.add _ _).block ≠ _; rw [add_block]; exact hn130_3) | exact hn130_3) (.int .i64 ((rd_T31 t123 (ji40)).f3))).trans hx130_2; replace hx130_3 := (cell_far (p := ⟨gb129, 3, none⟩) (by first | (rw [add_block]; exact hn130_3) | (show (Addr.add _ _).block ≠ _; rw [add_block]; exact hn130_3) | exact hn130_3) (.int .i64 ((rd_T31 t123 (ji40)).f3))).trans hx130_3; replace hx130_0 := (cell_far (p := ⟨gb129, 1, none⟩) (by first | (rw [add_block]; exact hn130_4) | (show (Addr.add _ _).block ≠ _; rw [add_block]; exact hn130_4) | exact hn130_4) (.int .i64 (wrap64 ((wrap64 (((rd_T31 t123 (ji40)).f1) - (t104.size : Int))) - 1)))).trans hx130_0; replace hx130_1 := (cell_far (p := ⟨gb129, 1, none⟩) (by first | (rw [add_block]; exact hn130_4) | (show (Addr.add _ _).block ≠ _; rw [add_block]; exact hn130_4) | exact hn130_4) (.int .i64 (wrap64 ((wrap64 (((rd_T31 t123 (ji40)).f1) - (t104.size : Int))) - 1)))).trans hx130_1; replace hx130_2 := (cell_far (p := ⟨gb129, 1, none⟩) (by first | (rw [add_block]; exact hn130_4) | (show (Addr.add _ _).block ≠ _; rw [add_block]; exact hn130_4) | exact hn130_4) (.int .i64 (wrap64 ((wrap64 (((rd_T31 t123 (ji40)).f1) - (t104.size : Int))) - 1)))).trans hx130_2; replace hx130_3 := (cell_far (p := ⟨gb129, 1, none⟩) (by first | (rw [add_block]; exact hn130_4) | (show (Addr.add _ _).block ≠ _; rw [add_block]; exact hn130_4) | exact hn130_4) (.int .i64 (wrap64 ((wrap64 (((rd_T31 t123 (ji40)).f1) - (t104.size : Int))) - 1)))).trans hx130_3; (try have hy130_0 := fun (n_ : Nat) => (show (((((((w48.drewN n_).setCell ⟨gb129, 0, none⟩ (.int .i64 ((rd_T31 t123 (ji40)).f0))).setCell ⟨gb129, 1, none⟩ (.int .i64 ((rd_T31 t123 (ji40)).f1))).setCell ⟨gb129, 2, none⟩ (.string ((rd_T31 t123 (ji40)).f2))).setCell ⟨gb129, 3, none⟩ (.int .i64 ((rd_T31 t123 (ji40)).f3))).setCell ⟨gb129, 1, none⟩ (.int .i64 (wrap64 ((wrap64 (((rd_T31 t123 (ji40)).f1) - (t104.size : Int))) - 1))))).cell? _ = some _ from hx130_0)); (try have hy130_1 := fun (n_ : Nat) => (show (((((((w48.drewN n_).setCell ⟨gb129, 0, none⟩ (.int .i64 ((rd_T31 t123 (ji40)).f0))).setCell ⟨gb129, 1, none⟩ (.int .i64 ((rd_T31 t123 (ji40)).f1))).setCell ⟨gb129, 2, none⟩ (.string ((rd_T31 t123 (ji40)).f2))).setCell ⟨gb129, 3, none⟩ (.int .i64 ((rd_T31 t123 (ji40)).f3))).setCell ⟨gb129, 1, none⟩ (.int .i64 (wrap64 ((wrap64 (((rd_T31 t123 (ji40)).f1) - (t104.size : Int))) - 1))))).cell? _ = some _ from hx130_1)); (try have hy130_2 := fun (n_ : Nat) => (show (((((((w48.drewN n_).setCell ⟨gb129, 0, none⟩ (.int .i64 ((rd_T31 t123 (ji40)).f0))).setCell ⟨gb129, 1, none⟩ (.int .i64 ((rd_T31 t123 (ji40)).f1))).setCell ⟨gb129, 2, none⟩ (.string ((rd_T31 t123 (ji40)).f2))).setCell ⟨gb129, 3, none⟩ (.int .i64 ((rd_T31 t123 (ji40)).f3))).setCell ⟨gb129, 1, none⟩ (.int .i64 (wrap64 ((wrap64 (((rd_T31 t123 (ji40)).f1) - (t104.size : Int))) - 1))))).cell? _ = some _ from hx130_2)); (try have hy130_3 := fun (n_ : Nat) => (show (((((((w48.drewN n_).setCell ⟨gb129, 0, none⟩ (.int .i64 ((rd_T31 t123 (ji40)).f0))).setCell ⟨gb129, 1, none⟩ (.int .i64 ((rd_T31 t123 (ji40)).f1))).setCell ⟨gb129, 2, none⟩ (.string ((rd_T31 t123 (ji40)).f2))).setCell ⟨gb129, 3, none⟩ (.int .i64 ((rd_T31 t123 (ji40)).f3))).setCell ⟨gb129, 1, none⟩ (.int .i64 (wrap64 ((wrap64 (((rd_T31 t123 (ji40)).f1) - (t104.size : Int))) - 1))))).cell? _ = some _ from hx130_3)); clear hn130_0; clear hn130_1; clear hn130_2; clear hn130_3; clear hn130_4; replace p130 := eq_true p130; replace q130 := eq_true q130))
              have BKf := hc4 (show (World.setCell (World.setCell (World.setCell (World.setCell (World.setCell w48 ⟨gb129, 0, none⟩ (.int .i64 (rd_T31 t123 ji40).f0)) ⟨gb129, 1, none⟩ (.int .i64 (rd_T31 t123 ji40).f1)) ⟨gb129, 2, none⟩ (.string (rd_T31 t123 ji40).f2)) ⟨gb129, 3, none⟩ (.int .i64 (rd_T31 t123 ji40).f3)) ⟨gb129, 1, none⟩ (.int .i64 (wrap64 (wrap64 ((rd_T31 t123 ji40).f1 - (t104.size : Int)) - 1)))).heap[gb129]? = _ from p4_1 (p4_3 (p4_2 (p4_1 (p4_0 BK129.out)))))
              clear hcz50_0 hcz50_1 hcz50_2 hcz50_3 hfz50_0 hfz50_1 hfz50_2 hfz50_3
              generalize hWf : (World.setCell (World.setCell (World.setCell (World.setCell (World.setCell w48 ⟨gb129, 0, none⟩ (.int .i64 (rd_T31 t123 ji40).f0)) ⟨gb129, 1, none⟩ (.int .i64 (rd_T31 t123 ji40).f1)) ⟨gb129, 2, none⟩ (.string (rd_T31 t123 ji40).f2)) ⟨gb129, 3, none⟩ (.int .i64 (rd_T31 t123 ji40).f3)) ⟨gb129, 1, none⟩ (.int .i64 (wrap64 (wrap64 ((rd_T31 t123 ji40).f1 - (t104.size : Int)) - 1)))) = Wf at BKf hx130_0 hx130_1 hx130_2 hx130_3 ⊢
              obtain ⟨hcf_0, hcf_1, hcf_2, hcf_3⟩ := BKf
              go_quiet (fail)
              clear hcf_0 hcf_1 hcf_2 hcf_3
              subst hWf
              go_wp2_with (fail)
              go_roundg k2
              case measure => have := HJ13.out; have := HK2.out; omega
              case rel => exact ⟨(wrap64 (x14_2 + 1)), (by first | rfl | (simp; done) | (simp [*]; done)), H', ⟨by have := HJ13.out; have := HK2.out; omega⟩, ⟨by (with_reducible repeat (first | apply Kd.R_alloc | apply Kd.R_drewN | apply Kd.R_drew)); exact Kd.R_mono (Kd.R_far (p := ⟨gb129, 1, none⟩) (Kd.R_far (p := ⟨gb129, 3, none⟩) (Kd.R_far (p := ⟨gb129, 2, none⟩) (Kd.R_far (p := ⟨gb129, 1, none⟩) (Kd.R_far (p := ⟨gb129, 0, none⟩) (Kd.R_mono HO_9.out (fun k_ hk => (⟨hk, hk.2⟩ : _ ∧ k_ ≠ gb129))) (fun _ hk => hk.2) (.int .i64 ((rd_T31 t123 (ji40)).f0))) (fun _ hk => hk.2) (.int .i64 ((rd_T31 t123 (ji40)).f1))) (fun _ hk => hk.2) (.string ((rd_T31 t123 (ji40)).f2))) (fun _ hk => hk.2) (.int .i64 ((rd_T31 t123 (ji40)).f3))) (fun _ hk => hk.2) (.int .i64 (wrap64 ((wrap64 (((rd_T31 t123 (ji40)).f1) - (t104.size : Int))) - 1)))) (fun _ hk => ⟨hk.1.1.1, hk.1.1.2⟩)⟩, ⟨by (with_reducible repeat (first | apply Kd.R_alloc | apply Kd.R_drewN | apply Kd.R_drew)); exact Kd.R_mono (Kd.R_far (p := ⟨gb129, 1, none⟩) (Kd.R_far (p := ⟨gb129, 3, none⟩) (Kd.R_far (p := ⟨gb129, 2, none⟩) (Kd.R_far (p := ⟨gb129, 1, none⟩) (Kd.R_far (p := ⟨gb129, 0, none⟩) (Kd.R_mono HO_12.out (fun k_ hk => (⟨hk, hk.2⟩ : _ ∧ k_ ≠ gb129))) (fun _ hk => hk.2) (.int .i64 ((rd_T31 t123 (ji40)).f0))) (fun _ hk => hk.2) (.int .i64 ((rd_T31 t123 (ji40)).f1))) (fun _ hk => hk.2) (.string ((rd_T31 t123 (ji40)).f2))) (fun _ hk => hk.2) (.int .i64 ((rd_T31 t123 (ji40)).f3))) (fun _ hk => hk.2) (.int .i64 (wrap64 ((wrap64 (((rd_T31 t123 (ji40)).f1) - (t104.size : Int))) - 1)))) (fun _ hk => ⟨hk.1.1.1, hk.1.1.2⟩)⟩, ⟨by (with_reducible repeat (first | apply Kd.R_alloc | apply Kd.R_drewN | apply Kd.R_drew)); exact Kd.R_mono (Kd.R_far (p := ⟨gb129, 1, none⟩) (Kd.R_far (p := ⟨gb129, 3, none⟩) (Kd.R_far (p := ⟨gb129, 2, none⟩) (Kd.R_far (p := ⟨gb129, 1, none⟩) (Kd.R_far (p := ⟨gb129, 0, none⟩) (Kd.R_mono HO_13.out (fun k_ hk => (⟨hk, hk.2⟩ : _ ∧ k_ ≠ gb129))) (fun _ hk => hk.2) (.int .i64 ((rd_T31 t123 (ji40)).f0))) (fun _ hk => hk.2) (.int .i64 ((rd_T31 t123 (ji40)).f1))) (fun _ hk => hk.2) (.string ((rd_T31 t123 (ji40)).f2))) (fun _ hk => hk.2) (.int .i64 ((rd_T31 t123 (ji40)).f3))) (fun _ hk => hk.2) (.int .i64 (wrap64 ((wrap64 (((rd_T31 t123 (ji40)).f1) - (t104.size : Int))) - 1)))) (fun _ hk => ⟨hk.1.1.1, hk.1.1.2⟩)⟩, ⟨kp BK101.out⟩, ⟨bl HB.out⟩⟩
            ·rw [if_neg c43] at H
             exact absurd H (by simp)
           ·rw [if_neg c42] at H
            exact absurd H (by simp)
          ·rw [if_neg c41] at H
           exact absurd H (by simp)
         ·rw [if_neg c39] at H
          have c39b0 : decide (x14_2 < (t111.length : Int)) = false := decide_eq_false c39
          clear c39
          by_cases c51 : t102 = true
          ·subst c51
           have H1 : (if 0 ≤ (t106.length : Int) then (if (t106.length : Int) ≤ (t123.length : Int) then ((drachmref08_Same.f k2 (t123.take ((t106.length : Int) : Int).toNat) t106).bind fun t135 => (some t135)) else (none)) else (none)) = some r := by rw [if_pos rfl] at H; exact H
           clear H
           have H := H1
           clear H1
           by_cases c52 : 0 ≤ (t106.length : Int)
           ·rw [if_pos c52] at H
            have c52b0 := eq_true c52
            have c52b1 : decide (0 ≤ (t106.length : Int)) = true := decide_eq_true c52
            clear c52
            by_cases c53 : (t106.length : Int) ≤ (t123.length : Int)
            ·rw [if_pos c53] at H
             have c53b0 := eq_true c53
             have c53b1 : decide ((t106.length : Int) ≤ (t123.length : Int)) = true := decide_eq_true c53
             clear c53
             obtain ⟨y131, hy131⟩ : ∃ y_ : List (S31), y_ = (t123.take ((t106.length : Int) : Int).toNat) := ⟨_, rfl⟩
             replace H : ((drachmref08_Same.f k2 y131 t106).bind fun t135 => (some t135)) = some r := by first | (rw [hy131]; with_reducible exact H) | (have H2_ := (Option.bind_some _ _).symm.trans H; rw [hy131]; with_reducible exact H2_) | (have H2_ := (Option.bind_some _ _).symm.trans H; with_reducible exact H2_) | with_reducible exact H | (rw [hy131]; exact H) | exact H
             have Ny131 := Aside0.mk hy131
             clear hy131
             replace H := Option.bind_eq_some_iff.mp H
             obtain ⟨t135, A540, H⟩ := H
             replace H : (some t135) = some r := H
             have A54 := Aside0.mk A540
             clear A540
             obtain rfl := Option.some.inj H
             obtain ⟨Ao55, co55, eo55⟩ := Kd.R_slice HO_12.out
             subst eo55
             obtain ⟨Ao56, co56, eo56⟩ := Kd.R_slice HO_9.out
             subst eo56
             obtain ⟨Ao58, co58, eo58⟩ := Kd.R_slice HO_13.out
             subst eo58
             have q57 : ((t106.length : Int) : Int) ≤ ((t123.length : Int) : Int) := of_decide_eq_true (by first | (with_reducible assumption) | assumption)
             obtain ⟨i057, hi057, _, hsz57, _⟩ := info_parts info31
             have hroom57 : t123.length ≤ co58 := (Kd.R_reads' HO_13.out).2.1
             have hC57 : Kd.C k31 _ Ao58 t123.length t123 := (Kd.R_reads' HO_13.out).2.2
             have hcut57 := cut_to (P := Tryd.prog) 28 31 .i64 Tryd.underlying28 hi057 Ao58 t123.length co58 (t106.length : Int) (of_decide_eq_true (by first | (with_reducible assumption) | assumption)) q57 hroom57
             have hr57 := Kd.C_take (m := ((t106.length : Int) : Int).toNat) hC57 (by omega)
             have hy57 : y131.length = ((t106.length : Int) : Int).toNat := (by rw [Ny131.out, List.length_take]; omega)
             rw [← Ny131.out] at hr57
             rw [← hy57] at hcut57
             have HR134 := Aside0.mk hr57
             have HC134 := Aside0.mk (show y131.length ≤ co58 from by omega)
             clear hr57 hC57 hroom57 hi057 hsz57
             have KY57 := Aside0.mk hy57
             clear hy57
             have KL57 := Aside0.mk (show ((t106.length : Int) : Int).toNat ≤ t123.length from by omega)
             replace q57 := eq_true q57
             go_wp2_with (first | (go_at_call 16; (with_reducible refine (drachmref08_Same.calls k2 _ _ y131 _ _ t106 t135 _ ?side1 ?side2 ?side3 ?side4 A54.out).mono ?_); (case side1 => repeat (first | exact (by repeat (first | (with_reducible exact HR134.out) | (with_reducible refine Kd.C_alloc ?_ _) | (with_reducible refine Kd.C_drewN ?_ _) | (with_reducible refine Kd.C_drew ?_) | exact HR134.out)) | (with_reducible refine Kd.C_alloc ?_ _) | (with_reducible refine Kd.C_drewN ?_ _) | (with_reducible refine Kd.C_drew ?_))); (case side2 => exact HC134.out); (case side3 => repeat (first | exact (Kd.R_reads' HO_9.out).2.2 | (with_reducible refine Kd.C_alloc ?_ _) | (with_reducible refine Kd.C_drewN ?_ _) | (with_reducible refine Kd.C_drew ?_))); (case side4 => exact (Kd.R_reads' HO_9.out).2.1); rintro e w' ⟨rfl, ⟨nd, rfl⟩⟩; (try first | exact ⟨rfl, _, World.drewN_drewN _ _ _⟩ | exact ⟨rfl, _, Eq.trans (World.drewN_drewN _ _ _) (congrArg (World.drewN _) (Nat.add_assoc _ _ _))⟩)))
             repeat (go_quiet (first | (go_at_call 16; (with_reducible refine (drachmref08_Same.calls k2 _ _ y131 _ _ t106 t135 _ ?side1 ?side2 ?side3 ?side4 A54.out).mono ?_); (case side1 => repeat (first | exact (by repeat (first | (with_reducible exact HR134.out) | (with_reducible refine Kd.C_alloc ?_ _) | (with_reducible refine Kd.C_drewN ?_ _) | (with_reducible refine Kd.C_drew ?_) | exact HR134.out)) | (with_reducible refine Kd.C_alloc ?_ _) | (with_reducible refine Kd.C_drewN ?_ _) | (with_reducible refine Kd.C_drew ?_))); (case side2 => exact HC134.out); (case side3 => repeat (first | exact (Kd.R_reads' HO_9.out).2.2 | (with_reducible refine Kd.C_alloc ?_ _) | (with_reducible refine Kd.C_drewN ?_ _) | (with_reducible refine Kd.C_drew ?_))); (case side4 => exact (Kd.R_reads' HO_9.out).2.1); rintro e w' ⟨rfl, ⟨nd, rfl⟩⟩; (try first | exact ⟨rfl, _, World.drewN_drewN _ _ _⟩ | exact ⟨rfl, _, Eq.trans (World.drewN_drewN _ _ _) (congrArg (World.drewN _) (Nat.add_assoc _ _ _))⟩))); try go_wp2_with (first | (go_at_call 16; (with_reducible refine (drachmref08_Same.calls k2 _ _ y131 _ _ t106 t135 _ ?side1 ?side2 ?side3 ?side4 A54.out).mono ?_); (case side1 => repeat (first | exact (by repeat (first | (with_reducible exact HR134.out) | (with_reducible refine Kd.C_alloc ?_ _) | (with_reducible refine Kd.C_drewN ?_ _) | (with_reducible refine Kd.C_drew ?_) | exact HR134.out)) | (with_reducible refine Kd.C_alloc ?_ _) | (with_reducible refine Kd.C_drewN ?_ _) | (with_reducible refine Kd.C_drew ?_))); (case side2 => exact HC134.out); (case side3 => repeat (first | exact (Kd.R_reads' HO_9.out).2.2 | (with_reducible refine Kd.C_alloc ?_ _) | (with_reducible refine Kd.C_drewN ?_ _) | (with_reducible refine Kd.C_drew ?_))); (case side4 => exact (Kd.R_reads' HO_9.out).2.1); rintro e w' ⟨rfl, ⟨nd, rfl⟩⟩; (try first | exact ⟨rfl, _, World.drewN_drewN _ _ _⟩ | exact ⟨rfl, _, Eq.trans (World.drewN_drewN _ _ _) (congrArg (World.drewN _) (Nat.add_assoc _ _ _))⟩))))
             go_ret
             exact ⟨by first | rfl | (simp [errW_none, errW_some] <;> rfl) | (simp [*, errW_none, errW_some] <;> rfl), bl HB.out⟩
            ·rw [if_neg c53] at H
             exact absurd H (by simp)
           ·rw [if_neg c52] at H
            exact absurd H (by simp)
          ·replace c51 := Bool.eq_false_iff.mpr c51
           subst c51
           have H1 : (none) = some r := by rw [if_neg (show ¬ (false = true) by decide)] at H; exact H
           clear H
           have H := H1
           clear H1
           exact absurd H (by simp)
   ·rw [if_neg c12] at H
    exact absurd H (by simp)
  ·rw [if_neg c11] at H
   exact absurd H (by simp)
 ·rw [if_neg c8] at H
  have c8b0 : (t108 == 0) = false := beq_eq_false_iff_ne.mpr c8
  have c8b1 : (t108 != 0) = true := bne_iff_ne.mpr c8
  by_cases c59 : t102 = true
  ·subst c59
   have H1 : (some ((t106.length : Int) == 0)) = some r := by rw [if_pos rfl] at H; exact H
   clear H
   have H := H1
   clear H1
   obtain rfl := Option.some.inj H
   go_enter Tryd.func8, Tryd.ntmps8
   go_wp2_with (first | ((with_reducible refine gate_dst (N := 3) rfl ?_); (try (refine gate_guard (by rfl) ?_; dsimp only)); refine box_event ?hg (N := 3) ?hd (cs := #[.string a1_0, .string a1_1]) (t := 22) ?hr ?_; (case hd => rfl); (case hg => rfl); (case hr => first | (go_simp; done) | (go_simp; rfl)); intro gb101 hg w60 hbox hb; have n0_ := sb HB hb; have n1_ := Aside0.mk (hbox); have n2_ := Aside0.mk ((by rw [hg]; exact (below_size (bl HB.out)) : w.heap.size ≤ gb101)); have n3_ := Aside0.mk ((by rw [hg]; exact (below_size (bl HB.out)) : w.heap.size ≤ gb101)); clear HB; have HB := n0_; have BK101 := n1_; have GW101 := n2_; have GE101 := n3_; clear n0_ n1_ n2_ n3_; clear hb hbox hg) | (go_at_call 10; (with_reducible refine (drachmlaw08_awake.calls  true _ (Glob.use hG (by decide) (bl HB.out)) A3.out).mono ?_); rintro e w61 ⟨rfl, hb⟩; replace BK101 := kb BK101 hb; replace HB := sb HB hb; (try clear hb); (try clear hb2); (try clear hk); (try clear hi)) | (go_at_call 12; (with_reducible refine (drachmlaw08_rest.calls a0 5 t103 _ A4.out).mono ?_); rintro e w' ⟨rfl, ⟨nd, rfl⟩⟩; (try first | exact ⟨rfl, _, World.drewN_drewN _ _ _⟩ | exact ⟨rfl, _, Eq.trans (World.drewN_drewN _ _ _) (congrArg (World.drewN _) (Nat.add_assoc _ _ _))⟩); obtain ⟨hcz62_0, hcz62_1⟩ := hc2 BK101.out; obtain ⟨hfz62_0, hfz62_1⟩ := hf2 BK101.out) | (go_at_call 11; (with_reducible refine (drachmlaw08_short.calls a1_0 60 t104 _ A5.out).mono ?_); rintro e w' ⟨rfl, ⟨nd, rfl⟩⟩; (try first | exact ⟨rfl, _, World.drewN_drewN _ _ _⟩ | exact ⟨rfl, _, Eq.trans (World.drewN_drewN _ _ _) (congrArg (World.drewN _) (Nat.add_assoc _ _ _))⟩)) | (go_at_call 11; (with_reducible refine (drachmlaw08_short.calls a1_1 60 t105 _ A6.out).mono ?_); rintro e w' ⟨rfl, ⟨nd, rfl⟩⟩; (try first | exact ⟨rfl, _, World.drewN_drewN _ _ _⟩ | exact ⟨rfl, _, Eq.trans (World.drewN_drewN _ _ _) (congrArg (World.drewN _) (Nat.add_assoc _ _ _))⟩)) | (go_at_call 18; (with_reducible refine (lex_Lex.calls (wrap64 (1 + t103)) t104 t106 t107 t108 _ (Glob.use hG (by decide) (bl HB.out)) A7.out).mono ?_); rintro e w63 ⟨v109, rfl, ho0, hb⟩; have HO110 := Aside0.mk (Kd.R_lower ho0 (below_size (bl HB.out))); replace BK101 := kb BK101 hb; replace HB := sb HB hb; (try clear hb); (try clear hb2); (try clear hk); (try clear hi); (try clear ho0); obtain ⟨Ao64, co64, eo64⟩ := Kd.R_slice HO110.out; subst eo64))
   repeat (go_quiet (first | ((with_reducible refine gate_dst (N := 3) rfl ?_); (try (refine gate_guard (by rfl) ?_; dsimp only)); refine box_event ?hg (N := 3) ?hd (cs := #[.string a1_0, .string a1_1]) (t := 22) ?hr ?_; (case hd => rfl); (case hg => rfl); (case hr => first | (go_simp; done) | (go_simp; rfl)); intro gb101 hg w60 hbox hb; have n0_ := sb HB hb; have n1_ := Aside0.mk (hbox); have n2_ := Aside0.mk ((by rw [hg]; exact (below_size (bl HB.out)) : w.heap.size ≤ gb101)); have n3_ := Aside0.mk ((by rw [hg]; exact (below_size (bl HB.out)) : w.heap.size ≤ gb101)); clear HB; have HB := n0_; have BK101 := n1_; have GW101 := n2_; have GE101 := n3_; clear n0_ n1_ n2_ n3_; clear hb hbox hg) | (go_at_call 10; (with_reducible refine (drachmlaw08_awake.calls  true _ (Glob.use hG (by decide) (bl HB.out)) A3.out).mono ?_); rintro e w61 ⟨rfl, hb⟩; replace BK101 := kb BK101 hb; replace HB := sb HB hb; (try clear hb); (try clear hb2); (try clear hk); (try clear hi)) | (go_at_call 12; (with_reducible refine (drachmlaw08_rest.calls a0 5 t103 _ A4.out).mono ?_); rintro e w' ⟨rfl, ⟨nd, rfl⟩⟩; (try first | exact ⟨rfl, _, World.drewN_drewN _ _ _⟩ | exact ⟨rfl, _, Eq.trans (World.drewN_drewN _ _ _) (congrArg (World.drewN _) (Nat.add_assoc _ _ _))⟩); obtain ⟨hcz62_0, hcz62_1⟩ := hc2 BK101.out; obtain ⟨hfz62_0, hfz62_1⟩ := hf2 BK101.out) | (go_at_call 11; (with_reducible refine (drachmlaw08_short.calls a1_0 60 t104 _ A5.out).mono ?_); rintro e w' ⟨rfl, ⟨nd, rfl⟩⟩; (try first | exact ⟨rfl, _, World.drewN_drewN _ _ _⟩ | exact ⟨rfl, _, Eq.trans (World.drewN_drewN _ _ _) (congrArg (World.drewN _) (Nat.add_assoc _ _ _))⟩)) | (go_at_call 11; (with_reducible refine (drachmlaw08_short.calls a1_1 60 t105 _ A6.out).mono ?_); rintro e w' ⟨rfl, ⟨nd, rfl⟩⟩; (try first | exact ⟨rfl, _, World.drewN_drewN _ _ _⟩ | exact ⟨rfl, _, Eq.trans (World.drewN_drewN _ _ _) (congrArg (World.drewN _) (Nat.add_assoc _ _ _))⟩)) | (go_at_call 18; (with_reducible refine (lex_Lex.calls (wrap64 (1 + t103)) t104 t106 t107 t108 _ (Glob.use hG (by decide) (bl HB.out)) A7.out).mono ?_); rintro e w63 ⟨v109, rfl, ho0, hb⟩; have HO110 := Aside0.mk (Kd.R_lower ho0 (below_size (bl HB.out))); replace BK101 := kb BK101 hb; replace HB := sb HB hb; (try clear hb); (try clear hb2); (try clear hk); (try clear hi); (try clear ho0); obtain ⟨Ao64, co64, eo64⟩ := Kd.R_slice HO110.out; subst eo64)); try go_wp2_with (first | ((with_reducible refine gate_dst (N := 3) rfl ?_); (try (refine gate_guard (by rfl) ?_; dsimp only)); refine box_event ?hg (N := 3) ?hd (cs := #[.string a1_0, .string a1_1]) (t := 22) ?hr ?_; (case hd => rfl); (case hg => rfl); (case hr => first | (go_simp; done) | (go_simp; rfl)); intro gb101 hg w60 hbox hb; have n0_ := sb HB hb; have n1_ := Aside0.mk (hbox); have n2_ := Aside0.mk ((by rw [hg]; exact (below_size (bl HB.out)) : w.heap.size ≤ gb101)); have n3_ := Aside0.mk ((by rw [hg]; exact (below_size (bl HB.out)) : w.heap.size ≤ gb101)); clear HB; have HB := n0_; have BK101 := n1_; have GW101 := n2_; have GE101 := n3_; clear n0_ n1_ n2_ n3_; clear hb hbox hg) | (go_at_call 10; (with_reducible refine (drachmlaw08_awake.calls  true _ (Glob.use hG (by decide) (bl HB.out)) A3.out).mono ?_); rintro e w61 ⟨rfl, hb⟩; replace BK101 := kb BK101 hb; replace HB := sb HB hb; (try clear hb); (try clear hb2); (try clear hk); (try clear hi)) | (go_at_call 12; (with_reducible refine (drachmlaw08_rest.calls a0 5 t103 _ A4.out).mono ?_); rintro e w' ⟨rfl, ⟨nd, rfl⟩⟩; (try first | exact ⟨rfl, _, World.drewN_drewN _ _ _⟩ | exact ⟨rfl, _, Eq.trans (World.drewN_drewN _ _ _) (congrArg (World.drewN _) (Nat.add_assoc _ _ _))⟩); obtain ⟨hcz62_0, hcz62_1⟩ := hc2 BK101.out; obtain ⟨hfz62_0, hfz62_1⟩ := hf2 BK101.out) | (go_at_call 11; (with_reducible refine (drachmlaw08_short.calls a1_0 60 t104 _ A5.out).mono ?_); rintro e w' ⟨rfl, ⟨nd, rfl⟩⟩; (try first | exact ⟨rfl, _, World.drewN_drewN _ _ _⟩ | exact ⟨rfl, _, Eq.trans (World.drewN_drewN _ _ _) (congrArg (World.drewN _) (Nat.add_assoc _ _ _))⟩)) | (go_at_call 11; (with_reducible refine (drachmlaw08_short.calls a1_1 60 t105 _ A6.out).mono ?_); rintro e w' ⟨rfl, ⟨nd, rfl⟩⟩; (try first | exact ⟨rfl, _, World.drewN_drewN _ _ _⟩ | exact ⟨rfl, _, Eq.trans (World.drewN_drewN _ _ _) (congrArg (World.drewN _) (Nat.add_assoc _ _ _))⟩)) | (go_at_call 18; (with_reducible refine (lex_Lex.calls (wrap64 (1 + t103)) t104 t106 t107 t108 _ (Glob.use hG (by decide) (bl HB.out)) A7.out).mono ?_); rintro e w63 ⟨v109, rfl, ho0, hb⟩; have HO110 := Aside0.mk (Kd.R_lower ho0 (below_size (bl HB.out))); replace BK101 := kb BK101 hb; replace HB := sb HB hb; (try clear hb); (try clear hb2); (try clear hk); (try clear hi); (try clear ho0); obtain ⟨Ao64, co64, eo64⟩ := Kd.R_slice HO110.out; subst eo64)))
   go_ret
   exact ⟨by first | rfl | (simp [errW_none, errW_some] <;> rfl) | (simp [*, errW_none, errW_some] <;> rfl), bl HB.out⟩
  ·replace c59 := Bool.eq_false_iff.mpr c59
   subst c59
   have H1 : (none) = some r := by rw [if_neg (show ¬ (false = true) by decide)] at H; exact H
   clear H
   have H := H1
   clear H1
   exact absurd H (by simp)

/-- THE ONE PURE STATEMENT of drachmlaw08_LexParts: yours. -/
def drachmlaw08_LexParts.Pure : Prop := ∀ (a0 : Int) (a1_0 : ByteArray) (a1_1 : ByteArray), (Lit.int .i64 a0).wf = true → a1_0.size ≤ maxLen → a1_1.size ≤ maxLen → ∃ k, drachmlaw08_LexParts.f k a0 a1_0 a1_1 = some true
theorem drachmlaw08_LexParts.walk (P : drachmlaw08_LexParts.Pure) (a0 : Int) (a1_0 : ByteArray) (a1_1 : ByteArray) (w : World) (hG : Glob [0, 2] w) (w0 : (Lit.int .i64 a0).wf = true) (w1_0 : a1_0.size ≤ maxLen) (w1_1 : a1_1.size ≤ maxLen) :
  Calls Tryd.prog 8 #[.int .i64 a0, .agg #[.string a1_0, .string a1_1]] w fun e w' => e = .returned (.bool true) ∧ Below w.heap.size w w' := by
 obtain ⟨k, h⟩ := P a0 a1_0 a1_1 w0 w1_0 w1_1
 refine (drachmlaw08_LexParts.calls k a0 a1_0 a1_1 true w hG h).mono ?_
 rintro e w' ⟨rfl, hd⟩
 exact ⟨rfl, hd⟩

end Go.Proofs.YtimkhjbnkcgekaaDoor.PLexParts
