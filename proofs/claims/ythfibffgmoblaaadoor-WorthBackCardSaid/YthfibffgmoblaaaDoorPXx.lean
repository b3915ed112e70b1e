/- Printed by a program of this session (wip/tools/prt.py) out of the translation: plain functions, and that the calls come to just them. No conditions beyond those that stand in each theorem. -/
import Derived.Test.YthfibffgmoblaaaDoorWw
import Derived.Test.YthfibffgmoblaaaDoorSq
import Derived.Test.YthfibffgmoblaaaDoorProg
import Derived.Below
import Derived.Deep.Draws
import Derived.Deep.AppendLies
import Derived.Maps.AppendAt
import Derived.OwnWalk
import Derived.Laws.BytesArg
import Derived.Laws.MakeOwn
import Derived.Laws.OwnMore
import Derived.Deep.OwnRows
import Derived.Tactics
import Derived.Lib.ConvBytes
import Derived.Laws.Slices
import Derived.WalkKit
import Derived.KernelRfl
import Derived.RowKit3
import Derived.Deep.LoopGhost
import Derived.Deep.QuietTactic
import Derived.BigQuiet
import Derived.WideLaws
import Derived.Deep.DeepCutAuto
import Derived.Deep.CutBlock
import Derived.Deep.RegionHeld3
import Derived.Laws.Rows
import Derived.Lib.AppendStr
import Derived.ArgAppend
import Derived.Laws.IdiomCopy
import Derived.OrdersHeld
import Derived.Laws.BitsLemmas
import Derived.RowKit
import Derived.Test.YthfibffgmoblaaaDoorGlob
import Derived.Test.YthfibffgmoblaaaDoorH3
import Derived.Test.YthfibffgmoblaaaDoorDi6
import Derived.Test.YthfibffgmoblaaaDoorPBx
import Derived.Test.YthfibffgmoblaaaDoorPTx
import Derived.Test.YthfibffgmoblaaaDoorPRx
namespace Go.Proofs.YthfibffgmoblaaaDoor.PX
open Go.Proofs.YthfibffgmoblaaaDoor.Sq Go.RowKit Go.Proofs.YthfibffgmoblaaaDoorW.PrintWords Go.Proofs.YthfibffgmoblaaaDoorW.PrintLast Go.Proofs.YthfibffgmoblaaaDoorW.PrintMore Go.Proofs.YthfibffgmoblaaaDoor.PB Go.Proofs.YthfibffgmoblaaaDoor.PT Go.Proofs.YthfibffgmoblaaaDoor.PR
attribute [local go_sem] max2_int min2_int max_two min_two max_three min_three max_four min_four   -- for this text's walks alone
set_option linter.unusedVariables false
set_option linter.unusedSimpArgs false

theorem arr_cell {w : World} {g : Nat} {e : Int → Value} (o z : Nat) (l : List Int) (j : Int) (h : ∀ i, i < l.length → w.cell? ⟨g, o + i * z, none⟩ = some (e (l.getD i 0))) (h0 : 0 ≤ j) (hj : j < (l.length : Int)) : w.cell? ⟨g, o + j.toNat * z, none⟩ = some (e (rd l j)) := h j.toNat (by omega)
theorem arr_cell1 {w : World} {g : Nat} {e : Int → Value} (l : List Int) (j : Int) (h : ∀ i, i < l.length → w.cell? ⟨g, i, none⟩ = some (e (l.getD i 0))) (h0 : 0 ≤ j) (hj : j < (l.length : Int)) : w.cell? ⟨g, j.toNat, none⟩ = some (e (rd l j)) := h j.toNat (by omega)
theorem arr_cell2 {w : World} {g : Nat} {e : Int → Value} (z : Nat) (l : List Int) (j : Int) (h : ∀ i, i < l.length → w.cell? ⟨g, i * z, none⟩ = some (e (l.getD i 0))) (h0 : 0 ≤ j) (hj : j < (l.length : Int)) : w.cell? ⟨g, j.toNat * z, none⟩ = some (e (rd l j)) := h j.toNat (by omega)


def errW : Option Int → Value
 | none => .nilIface
 | some c => .iface 0 (.int .i64 c)
theorem errW_none : errW none = .nilIface := rfl
theorem errW_some (c : Int) : errW (some c) = .iface 0 (.int .i64 c) := rfl

-- the values' own types

end Go.Proofs.YthfibffgmoblaaaDoor.PX

namespace Go.Proofs.YthfibffgmoblaaaDoor.PX
open Go.Proofs.YthfibffgmoblaaaDoor.Sq Go.RowKit Go.Proofs.YthfibffgmoblaaaDoorW.PrintWords Go.Proofs.YthfibffgmoblaaaDoorW.PrintLast Go.Proofs.YthfibffgmoblaaaDoorW.PrintMore Go.Proofs.YthfibffgmoblaaaDoor.PB Go.Proofs.YthfibffgmoblaaaDoor.PT Go.Proofs.YthfibffgmoblaaaDoor.PR
attribute [local go_sem] max2_int min2_int max_two min_two max_three min_three max_four min_four   -- for this text's walks alone
set_option linter.unusedVariables false
set_option linter.unusedSimpArgs false

/-! ### worth_Text: function 11 -/
def worth_Text.f (k : Nat) (a0_0 : Int) (a0_1 : Int) (a0_2 : Int) (a0_3 : Int) (a0_4 : Int) (a0_5 : Int) (a0_6 : Int) (a0_7 : Int) (a0_8 : Int) (a0_9 : Int) (a0_10 : Int) : Option (ByteArray) := (worth_Right.f k a0_0 a0_1 a0_2 a0_3 a0_4 a0_5 a0_6 a0_7 a0_8 a0_9 a0_10).bind fun t102 => (if t102 = true then ((frac_Text.f k a0_0 a0_1 a0_2).bind fun t103 => ((dims_Text.f a0_3 a0_4 a0_5 a0_6 a0_7 a0_8 a0_9).bind fun t104 => (if t104.toList = ([] : List UInt8) then (if a0_10 = 0 then (some t103) else ((strconv_Itoa.f a0_10).bind fun t105 => (if 2 + t105.size ≤ 9223372036854775807 then (if t103.size + ((⟨#[32, 35]⟩ : ByteArray) ++ t105).size ≤ 9223372036854775807 then (some (t103 ++ ((⟨#[32, 35]⟩ : ByteArray) ++ t105))) else (none)) else (none)))) else (if 1 + t104.size ≤ 9223372036854775807 then (if t103.size + ((⟨#[32]⟩ : ByteArray) ++ t104).size ≤ 9223372036854775807 then (if a0_10 = 0 then (some (t103 ++ ((⟨#[32]⟩ : ByteArray) ++ t104))) else ((strconv_Itoa.f a0_10).bind fun t106 => (if 2 + t106.size ≤ 9223372036854775807 then (if (t103 ++ ((⟨#[32]⟩ : ByteArray) ++ t104)).size + ((⟨#[32, 35]⟩ : ByteArray) ++ t106).size ≤ 9223372036854775807 then (some ((t103 ++ ((⟨#[32]⟩ : ByteArray) ++ t104)) ++ ((⟨#[32, 35]⟩ : ByteArray) ++ t106))) else (none)) else (none)))) else (none)) else (none))))) else (some (⟨#[]⟩ : ByteArray)))
theorem worth_Text.mono : ∀ a0 a1 a2 a3 a4 a5 a6 a7 a8 a9 a10 k, LeO (worth_Text.f k a0 a1 a2 a3 a4 a5 a6 a7 a8 a9 a10) (worth_Text.f (k + 1) a0 a1 a2 a3 a4 a5 a6 a7 a8 a9 a10) := by
 intro a0 a1 a2 a3 a4 a5 a6 a7 a8 a9 a10 k
 unfold worth_Text.f
 repeat' first
   | (with_reducible exact frac_Text.mono _ _ _ _)
   | (with_reducible exact worth_Right.mono _ _ _ _ _ _ _ _ _ _ _ _)
   | (with_reducible exact LeO.refl _)
   | (with_reducible exact LeO.none _)
   | (with_reducible refine LeO.ite ?_ ?_)
   | (with_reducible refine LeO.bind ?_ (fun _ => ?_))
   | exact frac_Text.mono _ _ _ _
   | exact worth_Right.mono _ _ _ _ _ _ _ _ _ _ _ _
   | exact LeO.none _
   | refine LeO.ite ?_ ?_
   | refine LeO.bind ?_ (fun _ => ?_)
set_option maxHeartbeats 8000000 in
set_option maxRecDepth 100000 in
theorem worth_Text.calls (k : Nat) (a0_0 : Int) (a0_1 : Int) (a0_2 : Int) (a0_3 : Int) (a0_4 : Int) (a0_5 : Int) (a0_6 : Int) (a0_7 : Int) (a0_8 : Int) (a0_9 : Int) (a0_10 : Int) (r : ByteArray) (w : World) (hG : Glob [2] w) (h : worth_Text.f k a0_0 a0_1 a0_2 a0_3 a0_4 a0_5 a0_6 a0_7 a0_8 a0_9 a0_10 = some r) :
  Calls Tryd.prog 11 #[.agg #[.int .i64 a0_0, .int .i64 a0_1, .int .i64 a0_2, .int .i64 a0_3, .int .i64 a0_4, .int .i64 a0_5, .int .i64 a0_6, .int .i64 a0_7, .int .i64 a0_8, .int .i64 a0_9, .int .i64 a0_10]] w fun e w' => e = .returned (.string r) ∧ Below w.heap.size w w' := by
 have hu31 := Tryd.underlying31
 have hu29 := Tryd.underlying29
 have hu23 := Tryd.underlying23
 have HB := Aside0.mk (Below.refl w.heap.size w)
 have H : ((worth_Right.f k a0_0 a0_1 a0_2 a0_3 a0_4 a0_5 a0_6 a0_7 a0_8 a0_9 a0_10).bind fun t102 => (if t102 = true then ((frac_Text.f k a0_0 a0_1 a0_2).bind fun t103 => ((dims_Text.f a0_3 a0_4 a0_5 a0_6 a0_7 a0_8 a0_9).bind fun t104 => (if t104.toList = ([] : List UInt8) then (if a0_10 = 0 then (some t103) else ((strconv_Itoa.f a0_10).bind fun t105 => (if 2 + t105.size ≤ 9223372036854775807 then (if t103.size + ((⟨#[32, 35]⟩ : ByteArray) ++ t105).size ≤ 9223372036854775807 then (some (t103 ++ ((⟨#[32, 35]⟩ : ByteArray) ++ t105))) else (none)) else (none)))) else (if 1 + t104.size ≤ 9223372036854775807 then (if t103.size + ((⟨#[32]⟩ : ByteArray) ++ t104).size ≤ 9223372036854775807 then (if a0_10 = 0 then (some (t103 ++ ((⟨#[32]⟩ : ByteArray) ++ t104))) else ((strconv_Itoa.f a0_10).bind fun t106 => (if 2 + t106.size ≤ 9223372036854775807 then (if (t103 ++ ((⟨#[32]⟩ : ByteArray) ++ t104)).size + ((⟨#[32, 35]⟩ : ByteArray) ++ t106).size ≤ 9223372036854775807 then (some ((t103 ++ ((⟨#[32]⟩ : ByteArray) ++ t104)) ++ ((⟨#[32, 35]⟩ : ByteArray) ++ t106))) else (none)) else (none)))) else (none)) else (none))))) else (some (⟨#[]⟩ : ByteArray)))) = some r := h
 clear h
 replace H := Option.bind_eq_some_iff.mp H
 obtain ⟨t102, A20, H⟩ := H
 replace H : (if t102 = true then ((frac_Text.f k a0_0 a0_1 a0_2).bind fun t103 => ((dims_Text.f a0_3 a0_4 a0_5 a0_6 a0_7 a0_8 a0_9).bind fun t104 => (if t104.toList = ([] : List UInt8) then (if a0_10 = 0 then (some t103) else ((strconv_Itoa.f a0_10).bind fun t105 => (if 2 + t105.size ≤ 9223372036854775807 then (if t103.size + ((⟨#[32, 35]⟩ : ByteArray) ++ t105).size ≤ 9223372036854775807 then (some (t103 ++ ((⟨#[32, 35]⟩ : ByteArray) ++ t105))) else (none)) else (none)))) else (if 1 + t104.size ≤ 9223372036854775807 then (if t103.size + ((⟨#[32]⟩ : ByteArray) ++ t104).size ≤ 9223372036854775807 then (if a0_10 = 0 then (some (t103 ++ ((⟨#[32]⟩ : ByteArray) ++ t104))) else ((strconv_Itoa.f a0_10).bind fun t106 => (if 2 + t106.size ≤ 9223372036854775807 then (if (t103 ++ ((⟨#[32]⟩ : ByteArray) ++ t104)).size + ((⟨#[32, 35]⟩ : ByteArray) ++ t106).size ≤ 9223372036854775807 then (some ((t103 ++ ((⟨#[32]⟩ : ByteArray) ++ t104)) ++ ((⟨#[32, 35]⟩ : ByteArray) ++ t106))) else (none)) else (none)))) else (none)) else (none))))) else (some (⟨#[]⟩ : ByteArray))) = some r := H
 have A2 := Aside0.mk A20
 clear A20
 by_cases c3 : t102 = true
 ·subst c3
  have H1 : ((frac_Text.f k a0_0 a0_1 a0_2).bind fun t103 => ((dims_Text.f a0_3 a0_4 a0_5 a0_6 a0_7 a0_8 a0_9).bind fun t104 => (if t104.toList = ([] : List UInt8) then (if a0_10 = 0 then (some t103) else ((strconv_Itoa.f a0_10).bind fun t105 => (if 2 + t105.size ≤ 9223372036854775807 then (if t103.size + ((⟨#[32, 35]⟩ : ByteArray) ++ t105).size ≤ 9223372036854775807 then (some (t103 ++ ((⟨#[32, 35]⟩ : ByteArray) ++ t105))) else (none)) else (none)))) else (if 1 + t104.size ≤ 9223372036854775807 then (if t103.size + ((⟨#[32]⟩ : ByteArray) ++ t104).size ≤ 9223372036854775807 then (if a0_10 = 0 then (some (t103 ++ ((⟨#[32]⟩ : ByteArray) ++ t104))) else ((strconv_Itoa.f a0_10).bind fun t106 => (if 2 + t106.size ≤ 9223372036854775807 then (if (t103 ++ ((⟨#[32]⟩ : ByteArray) ++ t104)).size + ((⟨#[32, 35]⟩ : ByteArray) ++ t106).size ≤ 9223372036854775807 then (some ((t103 ++ ((⟨#[32]⟩ : ByteArray) ++ t104)) ++ ((⟨#[32, 35]⟩ : ByteArray) ++ t106))) else (none)) else (none)))) else (none)) else (none))))) = some r := by rw [if_pos rfl] at H; exact H
  clear H
  have H := H1
  clear H1
  replace H := Option.bind_eq_some_iff.mp H
  obtain ⟨t103, A40, H⟩ := H
  replace H : ((dims_Text.f a0_3 a0_4 a0_5 a0_6 a0_7 a0_8 a0_9).bind fun t104 => (if t104.toList = ([] : List UInt8) then (if a0_10 = 0 then (some t103) else ((strconv_Itoa.f a0_10).bind fun t105 => (if 2 + t105.size ≤ 9223372036854775807 then (if t103.size + ((⟨#[32, 35]⟩ : ByteArray) ++ t105).size ≤ 9223372036854775807 then (some (t103 ++ ((⟨#[32, 35]⟩ : ByteArray) ++ t105))) else (none)) else (none)))) else (if 1 + t104.size ≤ 9223372036854775807 then (if t103.size + ((⟨#[32]⟩ : ByteArray) ++ t104).size ≤ 9223372036854775807 then (if a0_10 = 0 then (some (t103 ++ ((⟨#[32]⟩ : ByteArray) ++ t104))) else ((strconv_Itoa.f a0_10).bind fun t106 => (if 2 + t106.size ≤ 9223372036854775807 then (if (t103 ++ ((⟨#[32]⟩ : ByteArray) ++ t104)).size + ((⟨#[32, 35]⟩ : ByteArray) ++ t106).size ≤ 9223372036854775807 then (some ((t103 ++ ((⟨#[32]⟩ : ByteArray) ++ t104)) ++ ((⟨#[32, 35]⟩ : ByteArray) ++ t106))) else (none)) else (none)))) else (none)) else (none)))) = some r := H
  have A4 := Aside0.mk A40
  clear A40
  replace H := Option.bind_eq_some_iff.mp H
  obtain ⟨t104, A50, H⟩ := H
  replace H : (if t104.toList = ([] : List UInt8) then (if a0_10 = 0 then (some t103) else ((strconv_Itoa.f a0_10).bind fun t105 => (if 2 + t105.size ≤ 9223372036854775807 then (if t103.size + ((⟨#[32, 35]⟩ : ByteArray) ++ t105).size ≤ 9223372036854775807 then (some (t103 ++ ((⟨#[32, 35]⟩ : ByteArray) ++ t105))) else (none)) else (none)))) else (if 1 + t104.size ≤ 9223372036854775807 then (if t103.size + ((⟨#[32]⟩ : ByteArray) ++ t104).size ≤ 9223372036854775807 then (if a0_10 = 0 then (some (t103 ++ ((⟨#[32]⟩ : ByteArray) ++ t104))) else ((strconv_Itoa.f a0_10).bind fun t106 => (if 2 + t106.size ≤ 9223372036854775807 then (if (t103 ++ ((⟨#[32]⟩ : ByteArray) ++ t104)).size + ((⟨#[32, 35]⟩ : ByteArray) ++ t106).size ≤ 9223372036854775807 then (some ((t103 ++ ((⟨#[32]⟩ : ByteArray) ++ t104)) ++ ((⟨#[32, 35]⟩ : ByteArray) ++ t106))) else (none)) else (none)))) else (none)) else (none))) = some r := H
  have A5 := Aside0.mk A50
  clear A50
  by_cases c6 : t104.toList = ([] : List UInt8)
  ·rw [if_pos c6] at H
   have c6b0 : (t104.toList == ([] : List UInt8)) = true := beq_iff_eq.mpr c6
   have c6b1 : (t104.toList != ([] : List UInt8)) = false := bne_eq_false_iff_eq.mpr c6
   clear c6
   by_cases c7 : a0_10 = 0
   ·rw [if_pos c7] at H
    have c7b0 : (a0_10 == 0) = true := beq_iff_eq.mpr c7
    have c7b1 : (a0_10 != 0) = false := bne_eq_false_iff_eq.mpr c7
    clear c7
    obtain rfl := Option.some.inj H
    go_enter Tryd.func11, Tryd.ntmps11
    go_wp2_with (first | ((with_reducible refine gate_dst (N := 1) rfl ?_); refine box_event ?hg (N := 1) ?hd (cs := #[.int .i64 a0_0, .int .i64 a0_1, .int .i64 a0_2, .int .i64 a0_3, .int .i64 a0_4, .int .i64 a0_5, .int .i64 a0_6, .int .i64 a0_7, .int .i64 a0_8, .int .i64 a0_9, .int .i64 a0_10]) (t := 31) ?hr ?_; (case hd => rfl); (case hg => rfl); (case hr => first | (go_simp; done) | (go_simp; rfl)); intro gb101 hg w8 hbox hb; have n0_ := sb HB hb; have n1_ := Aside0.mk (hbox); have n2_ := Aside0.mk ((by rw [hg]; exact (below_size (bl HB.out)) : w.heap.size ≤ gb101)); have n3_ := Aside0.mk ((by rw [hg]; exact (below_size (bl HB.out)) : w.heap.size ≤ gb101)); clear HB; have HB := n0_; have BK101 := n1_; have GW101 := n2_; have GE101 := n3_; clear n0_ n1_ n2_ n3_; clear hb hbox hg; obtain ⟨hcz9_0, hcz9_1, hcz9_2, hcz9_3, hcz9_4, hcz9_5, hcz9_6, hcz9_7, hcz9_8, hcz9_9, hcz9_10⟩ := hc11 BK101.out; obtain ⟨hfz9_0, hfz9_1, hfz9_2, hfz9_3, hfz9_4, hfz9_5, hfz9_6, hfz9_7, hfz9_8, hfz9_9, hfz9_10⟩ := hf11 BK101.out) | (go_at_call 19; (with_reducible refine (worth_Right.calls k a0_0 a0_1 a0_2 a0_3 a0_4 a0_5 a0_6 a0_7 a0_8 a0_9 a0_10 true _ A2.out).mono ?_); rintro e w10 ⟨rfl, hb⟩; replace BK101 := kb BK101 hb; replace HB := sb HB hb; (try clear hb); (try clear hb2); (try clear hk); (try clear hi); obtain ⟨hcz11_0, hcz11_1, hcz11_2, hcz11_3, hcz11_4, hcz11_5, hcz11_6, hcz11_7, hcz11_8, hcz11_9, hcz11_10⟩ := hc11 BK101.out; obtain ⟨hfz11_0, hfz11_1, hfz11_2, hfz11_3, hfz11_4, hfz11_5, hfz11_6, hfz11_7, hfz11_8, hfz11_9, hfz11_10⟩ := hf11 BK101.out) | (go_at_call 21; (with_reducible refine (frac_Text.calls k a0_0 a0_1 a0_2 t103 _ (Glob.use hG (by decide) (bl HB.out)) A4.out).mono ?_); rintro e w12 ⟨rfl, hb⟩; replace BK101 := kb BK101 hb; replace HB := sb HB hb; (try clear hb); (try clear hb2); (try clear hk); (try clear hi); obtain ⟨hcz13_0, hcz13_1, hcz13_2, hcz13_3, hcz13_4, hcz13_5, hcz13_6, hcz13_7, hcz13_8, hcz13_9, hcz13_10⟩ := hc11 BK101.out; obtain ⟨hfz13_0, hfz13_1, hfz13_2, hfz13_3, hfz13_4, hfz13_5, hfz13_6, hfz13_7, hfz13_8, hfz13_9, hfz13_10⟩ := hf11 BK101.out) | (go_at_call 22; (with_reducible refine (dims_Text.calls a0_3 a0_4 a0_5 a0_6 a0_7 a0_8 a0_9 t104 _ (Glob.use hG (by decide) (bl HB.out)) A5.out).mono ?_); rintro e w14 ⟨rfl, hb⟩; replace BK101 := kb BK101 hb; replace HB := sb HB hb; (try clear hb); (try clear hb2); (try clear hk); (try clear hi); obtain ⟨hcz15_0, hcz15_1, hcz15_2, hcz15_3, hcz15_4, hcz15_5, hcz15_6, hcz15_7, hcz15_8, hcz15_9, hcz15_10⟩ := hc11 BK101.out; obtain ⟨hfz15_0, hfz15_1, hfz15_2, hfz15_3, hfz15_4, hfz15_5, hfz15_6, hfz15_7, hfz15_8, hfz15_9, hfz15_10⟩ := hf11 BK101.out))
    go_ret
    exact ⟨by first | rfl | (simp [errW_none, errW_some] <;> rfl) | (simp [*, errW_none, errW_some] <;> rfl), bl HB.out⟩
   ·rw [if_neg c7] at H
    have c7b0 : (a0_10 == 0) = false := beq_eq_false_iff_ne.mpr c7
    have c7b1 : (a0_10 != 0) = true := bne_iff_ne.mpr c7
    replace H := Option.bind_eq_some_iff.mp H
    obtain ⟨t105, A160, H⟩ := H
    replace H : (if 2 + t105.size ≤ 9223372036854775807 then (if t103.size + ((⟨#[32, 35]⟩ : ByteArray) ++ t105).size ≤ 9223372036854775807 then (some (t103 ++ ((⟨#[32, 35]⟩ : ByteArray) ++ t105))) else (none)) else (none)) = some r := H
    have A16 := Aside0.mk A160
    clear A160
    by_cases c17 : 2 + t105.size ≤ 9223372036854775807
    ·rw [if_pos c17] at H
     have c17b0 := eq_true c17
     have c17b1 : decide (2 + t105.size ≤ 9223372036854775807) = true := decide_eq_true c17
     try have c17b2 : (9223372036854775807 < 2 + t105.size) = False := eq_false (Nat.not_lt.2 c17)
     by_cases c18 : t103.size + ((⟨#[32, 35]⟩ : ByteArray) ++ t105).size ≤ 9223372036854775807
     ·rw [if_pos c18] at H
      have c18b0 := eq_true c18
      have c18b1 : decide (t103.size + ((⟨#[32, 35]⟩ : ByteArray) ++ t105).size ≤ 9223372036854775807) = true := decide_eq_true c18
      try have c18b2 : (9223372036854775807 < t103.size + ((⟨#[32, 35]⟩ : ByteArray) ++ t105).size) = False := eq_false (Nat.not_lt.2 c18)
      (try have c18b3 : (9223372036854775807 < t103.size + (2 + t105.size)) = False := eq_false (by have h_ := c18; simp only [ByteArray.size_append] at h_; have e0_ : (⟨#[32, 35]⟩ : ByteArray).size = 2 := rfl; omega))
      obtain rfl := Option.some.inj H
      go_enter Tryd.func11, Tryd.ntmps11
      go_wp2_with (first | ((with_reducible refine gate_dst (N := 1) rfl ?_); refine box_event ?hg (N := 1) ?hd (cs := #[.int .i64 a0_0, .int .i64 a0_1, .int .i64 a0_2, .int .i64 a0_3, .int .i64 a0_4, .int .i64 a0_5, .int .i64 a0_6, .int .i64 a0_7, .int .i64 a0_8, .int .i64 a0_9, .int .i64 a0_10]) (t := 31) ?hr ?_; (case hd => rfl); (case hg => rfl); (case hr => first | (go_simp; done) | (go_simp; rfl)); intro gb101 hg w19 hbox hb; have n0_ := sb HB hb; have n1_ := Aside0.mk (hbox); have n2_ := Aside0.mk ((by rw [hg]; exact (below_size (bl HB.out)) : w.heap.size ≤ gb101)); have n3_ := Aside0.mk ((by rw [hg]; exact (below_size (bl HB.out)) : w.heap.size ≤ gb101)); clear HB; have HB := n0_; have BK101 := n1_; have GW101 := n2_; have GE101 := n3_; clear n0_ n1_ n2_ n3_; clear hb hbox hg; obtain ⟨hcz20_0, hcz20_1, hcz20_2, hcz20_3, hcz20_4, hcz20_5, hcz20_6, hcz20_7, hcz20_8, hcz20_9, hcz20_10⟩ := hc11 BK101.out; obtain ⟨hfz20_0, hfz20_1, hfz20_2, hfz20_3, hfz20_4, hfz20_5, hfz20_6, hfz20_7, hfz20_8, hfz20_9, hfz20_10⟩ := hf11 BK101.out) | (go_at_call 19; (with_reducible refine (worth_Right.calls k a0_0 a0_1 a0_2 a0_3 a0_4 a0_5 a0_6 a0_7 a0_8 a0_9 a0_10 true _ A2.out).mono ?_); rintro e w21 ⟨rfl, hb⟩; replace BK101 := kb BK101 hb; replace HB := sb HB hb; (try clear hb); (try clear hb2); (try clear hk); (try clear hi); obtain ⟨hcz22_0, hcz22_1, hcz22_2, hcz22_3, hcz22_4, hcz22_5, hcz22_6, hcz22_7, hcz22_8, hcz22_9, hcz22_10⟩ := hc11 BK101.out; obtain ⟨hfz22_0, hfz22_1, hfz22_2, hfz22_3, hfz22_4, hfz22_5, hfz22_6, hfz22_7, hfz22_8, hfz22_9, hfz22_10⟩ := hf11 BK101.out) | (go_at_call 21; (with_reducible refine (frac_Text.calls k a0_0 a0_1 a0_2 t103 _ (Glob.use hG (by decide) (bl HB.out)) A4.out).mono ?_); rintro e w23 ⟨rfl, hb⟩; replace BK101 := kb BK101 hb; replace HB := sb HB hb; (try clear hb); (try clear hb2); (try clear hk); (try clear hi); obtain ⟨hcz24_0, hcz24_1, hcz24_2, hcz24_3, hcz24_4, hcz24_5, hcz24_6, hcz24_7, hcz24_8, hcz24_9, hcz24_10⟩ := hc11 BK101.out; obtain ⟨hfz24_0, hfz24_1, hfz24_2, hfz24_3, hfz24_4, hfz24_5, hfz24_6, hfz24_7, hfz24_8, hfz24_9, hfz24_10⟩ := hf11 BK101.out) | (go_at_call 22; (with_reducible refine (dims_Text.calls a0_3 a0_4 a0_5 a0_6 a0_7 a0_8 a0_9 t104 _ (Glob.use hG (by decide) (bl HB.out)) A5.out).mono ?_); rintro e w25 ⟨rfl, hb⟩; replace BK101 := kb BK101 hb; replace HB := sb HB hb; (try clear hb); (try clear hb2); (try clear hk); (try clear hi); obtain ⟨hcz26_0, hcz26_1, hcz26_2, hcz26_3, hcz26_4, hcz26_5, hcz26_6, hcz26_7, hcz26_8, hcz26_9, hcz26_10⟩ := hc11 BK101.out; obtain ⟨hfz26_0, hfz26_1, hfz26_2, hfz26_3, hfz26_4, hfz26_5, hfz26_6, hfz26_7, hfz26_8, hfz26_9, hfz26_10⟩ := hf11 BK101.out) | (go_at_call 23; (with_reducible refine (strconv_Itoa.calls a0_10 t105 _ (Glob.use hG (by decide) (bl HB.out)) A16.out).mono ?_); rintro e w27 ⟨rfl, hb⟩; replace BK101 := kb BK101 hb; replace HB := sb HB hb; (try clear hb); (try clear hb2); (try clear hk); (try clear hi)))
      go_ret
      exact ⟨by first | rfl | (simp [errW_none, errW_some] <;> rfl) | (simp [*, errW_none, errW_some] <;> rfl), bl HB.out⟩
     ·rw [if_neg c18] at H
      exact absurd H (by simp)
    ·rw [if_neg c17] at H
     exact absurd H (by simp)
  ·rw [if_neg c6] at H
   have c6b0 : (t104.toList == ([] : List UInt8)) = false := beq_eq_false_iff_ne.mpr c6
   have c6b1 : (t104.toList != ([] : List UInt8)) = true := bne_iff_ne.mpr c6
   by_cases c28 : 1 + t104.size ≤ 9223372036854775807
   ·rw [if_pos c28] at H
    have c28b0 := eq_true c28
    have c28b1 : decide (1 + t104.size ≤ 9223372036854775807) = true := decide_eq_true c28
    try have c28b2 : (9223372036854775807 < 1 + t104.size) = False := eq_false (Nat.not_lt.2 c28)
    by_cases c29 : t103.size + ((⟨#[32]⟩ : ByteArray) ++ t104).size ≤ 9223372036854775807
    ·rw [if_pos c29] at H
     have c29b0 := eq_true c29
     have c29b1 : decide (t103.size + ((⟨#[32]⟩ : ByteArray) ++ t104).size ≤ 9223372036854775807) = true := decide_eq_true c29
     try have c29b2 : (9223372036854775807 < t103.size + ((⟨#[32]⟩ : ByteArray) ++ t104).size) = False := eq_false (Nat.not_lt.2 c29)
     (try have c29b3 : (9223372036854775807 < t103.size + (1 + t104.size)) = False := eq_false (by have h_ := c29; simp only [ByteArray.size_append] at h_; have e0_ : (⟨#[32]⟩ : ByteArray).size = 1 := rfl; omega))
     by_cases c30 : a0_10 = 0
     ·rw [if_pos c30] at H
      have c30b0 : (a0_10 == 0) = true := beq_iff_eq.mpr c30
      have c30b1 : (a0_10 != 0) = false := bne_eq_false_iff_eq.mpr c30
      clear c30
      obtain rfl := Option.some.inj H
      go_enter Tryd.func11, Tryd.ntmps11
      go_wp2_with (first | ((with_reducible refine gate_dst (N := 1) rfl ?_); refine box_event ?hg (N := 1) ?hd (cs := #[.int .i64 a0_0, .int .i64 a0_1, .int .i64 a0_2, .int .i64 a0_3, .int .i64 a0_4, .int .i64 a0_5, .int .i64 a0_6, .int .i64 a0_7, .int .i64 a0_8, .int .i64 a0_9, .int .i64 a0_10]) (t := 31) ?hr ?_; (case hd => rfl); (case hg => rfl); (case hr => first | (go_simp; done) | (go_simp; rfl)); intro gb101 hg w31 hbox hb; have n0_ := sb HB hb; have n1_ := Aside0.mk (hbox); have n2_ := Aside0.mk ((by rw [hg]; exact (below_size (bl HB.out)) : w.heap.size ≤ gb101)); have n3_ := Aside0.mk ((by rw [hg]; exact (below_size (bl HB.out)) : w.heap.size ≤ gb101)); clear HB; have HB := n0_; have BK101 := n1_; have GW101 := n2_; have GE101 := n3_; clear n0_ n1_ n2_ n3_; clear hb hbox hg; obtain ⟨hcz32_0, hcz32_1, hcz32_2, hcz32_3, hcz32_4, hcz32_5, hcz32_6, hcz32_7, hcz32_8, hcz32_9, hcz32_10⟩ := hc11 BK101.out; obtain ⟨hfz32_0, hfz32_1, hfz32_2, hfz32_3, hfz32_4, hfz32_5, hfz32_6, hfz32_7, hfz32_8, hfz32_9, hfz32_10⟩ := hf11 BK101.out) | (go_at_call 19; (with_reducible refine (worth_Right.calls k a0_0 a0_1 a0_2 a0_3 a0_4 a0_5 a0_6 a0_7 a0_8 a0_9 a0_10 true _ A2.out).mono ?_); rintro e w33 ⟨rfl, hb⟩; replace BK101 := kb BK101 hb; replace HB := sb HB hb; (try clear hb); (try clear hb2); (try clear hk); (try clear hi); obtain ⟨hcz34_0, hcz34_1, hcz34_2, hcz34_3, hcz34_4, hcz34_5, hcz34_6, hcz34_7, hcz34_8, hcz34_9, hcz34_10⟩ := hc11 BK101.out; obtain ⟨hfz34_0, hfz34_1, hfz34_2, hfz34_3, hfz34_4, hfz34_5, hfz34_6, hfz34_7, hfz34_8, hfz34_9, hfz34_10⟩ := hf11 BK101.out) | (go_at_call 21; (with_reducible refine (frac_Text.calls k a0_0 a0_1 a0_2 t103 _ (Glob.use hG (by decide) (bl HB.out)) A4.out).mono ?_); rintro e w35 ⟨rfl, hb⟩; replace BK101 := kb BK101 hb; replace HB := sb HB hb; (try clear hb); (try clear hb2); (try clear hk); (try clear hi); obtain ⟨hcz36_0, hcz36_1, hcz36_2, hcz36_3, hcz36_4, hcz36_5, hcz36_6, hcz36_7, hcz36_8, hcz36_9, hcz36_10⟩ := hc11 BK101.out; obtain ⟨hfz36_0, hfz36_1, hfz36_2, hfz36_3, hfz36_4, hfz36_5, hfz36_6, hfz36_7, hfz36_8, hfz36_9, hfz36_10⟩ := hf11 BK101.out) | (go_at_call 22; (with_reducible refine (dims_Text.calls a0_3 a0_4 a0_5 a0_6 a0_7 a0_8 a0_9 t104 _ (Glob.use hG (by decide) (bl HB.out)) A5.out).mono ?_); rintro e w37 ⟨rfl, hb⟩; replace BK101 := kb BK101 hb; replace HB := sb HB hb; (try clear hb); (try clear hb2); (try clear hk); (try clear hi); obtain ⟨hcz38_0, hcz38_1, hcz38_2, hcz38_3, hcz38_4, hcz38_5, hcz38_6, hcz38_7, hcz38_8, hcz38_9, hcz38_10⟩ := hc11 BK101.out; obtain ⟨hfz38_0, hfz38_1, hfz38_2, hfz38_3, hfz38_4, hfz38_5, hfz38_6, hfz38_7, hfz38_8, hfz38_9, hfz38_10⟩ := hf11 BK101.out))
      go_ret
      exact ⟨by first | rfl | (simp [errW_none, errW_some] <;> rfl) | (simp [*, errW_none, errW_some] <;> rfl), bl HB.out⟩
     ·rw [if_neg c30] at H
      have c30b0 : (a0_10 == 0) = false := beq_eq_false_iff_ne.mpr c30
      have c30b1 : (a0_10 != 0) = true := bne_iff_ne.mpr c30
      replace H := Option.bind_eq_some_iff.mp H
      obtain ⟨t106, A390, H⟩ := H
      replace H : (if 2 + t106.size ≤ 9223372036854775807 then (if (t103 ++ ((⟨#[32]⟩ : ByteArray) ++ t104)).size + ((⟨#[32, 35]⟩ : ByteArray) ++ t106).size ≤ 9223372036854775807 then (some ((t103 ++ ((⟨#[32]⟩ : ByteArray) ++ t104)) ++ ((⟨#[32, 35]⟩ : ByteArray) ++ t106))) else (none)) else (none)) = some r := H
      have A39 := Aside0.mk A390
      clear A390
      by_cases c40 : 2 + t106.size ≤ 9223372036854775807
      ·rw [if_pos c40] at H
       have c40b0 := eq_true c40
       have c40b1 : decide (2 + t106.size ≤ 9223372036854775807) = true := decide_eq_true c40
       try have c40b2 : (9223372036854775807 < 2 + t106.size) = False := eq_false (Nat.not_lt.2 c40)
       by_cases c41 : (t103 ++ ((⟨#[32]⟩ : ByteArray) ++ t104)).size + ((⟨#[32, 35]⟩ : ByteArray) ++ t106).size ≤ 9223372036854775807
       ·rw [if_pos c41] at H
        have c41b0 := eq_true c41
        have c41b1 : decide ((t103 ++ ((⟨#[32]⟩ : ByteArray) ++ t104)).size + ((⟨#[32, 35]⟩ : ByteArray) ++ t106).size ≤ 9223372036854775807) = true := decide_eq_true c41
        try have c41b2 : (9223372036854775807 < (t103 ++ ((⟨#[32]⟩ : ByteArray) ++ t104)).size + ((⟨#[32, 35]⟩ : ByteArray) ++ t106).size) = False := eq_false (Nat.not_lt.2 c41)
        (try have c41b3 : (9223372036854775807 < t103.size + (1 + t104.size) + (2 + t106.size)) = False := eq_false (by have h_ := c41; simp only [ByteArray.size_append] at h_; have e0_ : (⟨#[32, 35]⟩ : ByteArray).size = 2 := rfl; have e1_ : (⟨#[32]⟩ : ByteArray).size = 1 := rfl; omega))
        obtain rfl := Option.some.inj H
        go_enter Tryd.func11, Tryd.ntmps11
        go_wp2_with (first | ((with_reducible refine gate_dst (N := 1) rfl ?_); refine box_event ?hg (N := 1) ?hd (cs := #[.int .i64 a0_0, .int .i64 a0_1, .int .i64 a0_2, .int .i64 a0_3, .int .i64 a0_4, .int .i64 a0_5, .int .i64 a0_6, .int .i64 a0_7, .int .i64 a0_8, .int .i64 a0_9, .int .i64 a0_10]) (t := 31) ?hr ?_; (case hd => rfl); (case hg => rfl); (case hr => first | (go_simp; done) | (go_simp; rfl)); intro gb101 hg w42 hbox hb; have n0_ := sb HB hb; have n1_ := Aside0.mk (hbox); have n2_ := Aside0.mk ((by rw [hg]; exact (below_size (bl HB.out)) : w.heap.size ≤ gb101)); have n3_ := Aside0.mk ((by rw [hg]; exact (below_size (bl HB.out)) : w.heap.size ≤ gb101)); clear HB; have HB := n0_; have BK101 := n1_; have GW101 := n2_; have GE101 := n3_; clear n0_ n1_ n2_ n3_; clear hb hbox hg; obtain ⟨hcz43_0, hcz43_1, hcz43_2, hcz43_3, hcz43_4, hcz43_5, hcz43_6, hcz43_7, hcz43_8, hcz43_9, hcz43_10⟩ := hc11 BK101.out; obtain ⟨hfz43_0, hfz43_1, hfz43_2, hfz43_3, hfz43_4, hfz43_5, hfz43_6, hfz43_7, hfz43_8, hfz43_9, hfz43_10⟩ := hf11 BK101.out) | (go_at_call 19; (with_reducible refine (worth_Right.calls k a0_0 a0_1 a0_2 a0_3 a0_4 a0_5 a0_6 a0_7 a0_8 a0_9 a0_10 true _ A2.out).mono ?_); rintro e w44 ⟨rfl, hb⟩; replace BK101 := kb BK101 hb; replace HB := sb HB hb; (try clear hb); (try clear hb2); (try clear hk); (try clear hi); obtain ⟨hcz45_0, hcz45_1, hcz45_2, hcz45_3, hcz45_4, hcz45_5, hcz45_6, hcz45_7, hcz45_8, hcz45_9, hcz45_10⟩ := hc11 BK101.out; obtain ⟨hfz45_0, hfz45_1, hfz45_2, hfz45_3, hfz45_4, hfz45_5, hfz45_6, hfz45_7, hfz45_8, hfz45_9, hfz45_10⟩ := hf11 BK101.out) | (go_at_call 21; (with_reducible refine (frac_Text.calls k a0_0 a0_1 a0_2 t103 _ (Glob.use hG (by decide) (bl HB.out)) A4.out).mono ?_); rintro e w46 ⟨rfl, hb⟩; replace BK101 := kb BK101 hb; replace HB := sb HB hb; (try clear hb); (try clear hb2); (try clear hk); (try clear hi); obtain ⟨hcz47_0, hcz47_1, hcz47_2, hcz47_3, hcz47_4, hcz47_5, hcz47_6, hcz47_7, hcz47_8, hcz47_9, hcz47_10⟩ := hc11 BK101.out; obtain ⟨hfz47_0, hfz47_1, hfz47_2, hfz47_3, hfz47_4, hfz47_5, hfz47_6, hfz47_7, hfz47_8, hfz47_9, hfz47_10⟩ := hf11 BK101.out) | (go_at_call 22; (with_reducible refine (dims_Text.calls a0_3 a0_4 a0_5 a0_6 a0_7 a0_8 a0_9 t104 _ (Glob.use hG (by decide) (bl HB.out)) A5.out).mono ?_); rintro e w48 ⟨rfl, hb⟩; replace BK101 := kb BK101 hb; replace HB := sb HB hb; (try clear hb); (try clear hb2); (try clear hk); (try clear hi); obtain ⟨hcz49_0, hcz49_1, hcz49_2, hcz49_3, hcz49_4, hcz49_5, hcz49_6, hcz49_7, hcz49_8, hcz49_9, hcz49_10⟩ := hc11 BK101.out; obtain ⟨hfz49_0, hfz49_1, hfz49_2, hfz49_3, hfz49_4, hfz49_5, hfz49_6, hfz49_7, hfz49_8, hfz49_9, hfz49_10⟩ := hf11 BK101.out) | (go_at_call 23; (with_reducible refine (strconv_Itoa.calls a0_10 t106 _ (Glob.use hG (by decide) (bl HB.out)) A39.out).mono ?_); rintro e w50 ⟨rfl, hb⟩; replace BK101 := kb BK101 hb; replace HB := sb HB hb; (try clear hb); (try clear hb2); (try clear hk); (try clear hi)))
        go_ret
        exact ⟨by first | rfl | (simp [errW_none, errW_some] <;> rfl) | (simp [*, errW_none, errW_some] <;> rfl), bl HB.out⟩
       ·rw [if_neg c41] at H
        exact absurd H (by simp)
      ·rw [if_neg c40] at H
       exact absurd H (by simp)
    ·rw [if_neg c29] at H
     exact absurd H (by simp)
   ·rw [if_neg c28] at H
    exact absurd H (by simp)
 ·replace c3 := Bool.eq_false_iff.mpr c3
  subst c3
  have H1 : (some (⟨#[]⟩ : ByteArray)) = some r := by rw [if_neg (show ¬ (false = true) by decide)] at H; exact H
  clear H
  have H := H1
  clear H1
  obtain rfl := Option.some.inj H
  go_enter Tryd.func11, Tryd.ntmps11
  go_wp2_with (first | ((with_reducible refine gate_dst (N := 1) rfl ?_); refine box_event ?hg (N := 1) ?hd (cs := #[.int .i64 a0_0, .int .i64 a0_1, .int .i64 a0_2, .int .i64 a0_3, .int .i64 a0_4, .int .i64 a0_5, .int .i64 a0_6, .int .i64 a0_7, .int .i64 a0_8, .int .i64 a0_9, .int .i64 a0_10]) (t := 31) ?hr ?_; (case hd => rfl); (case hg => rfl); (case hr => first | (go_simp; done) | (go_simp; rfl)); intro gb101 hg w51 hbox hb; have n0_ := sb HB hb; have n1_ := Aside0.mk (hbox); have n2_ := Aside0.mk ((by rw [hg]; exact (below_size (bl HB.out)) : w.heap.size ≤ gb101)); have n3_ := Aside0.mk ((by rw [hg]; exact (below_size (bl HB.out)) : w.heap.size ≤ gb101)); clear HB; have HB := n0_; have BK101 := n1_; have GW101 := n2_; have GE101 := n3_; clear n0_ n1_ n2_ n3_; clear hb hbox hg; obtain ⟨hcz52_0, hcz52_1, hcz52_2, hcz52_3, hcz52_4, hcz52_5, hcz52_6, hcz52_7, hcz52_8, hcz52_9, hcz52_10⟩ := hc11 BK101.out; obtain ⟨hfz52_0, hfz52_1, hfz52_2, hfz52_3, hfz52_4, hfz52_5, hfz52_6, hfz52_7, hfz52_8, hfz52_9, hfz52_10⟩ := hf11 BK101.out) | (go_at_call 19; (with_reducible refine (worth_Right.calls k a0_0 a0_1 a0_2 a0_3 a0_4 a0_5 a0_6 a0_7 a0_8 a0_9 a0_10 false _ A2.out).mono ?_); rintro e w53 ⟨rfl, hb⟩; replace BK101 := kb BK101 hb; replace HB := sb HB hb; (try clear hb); (try clear hb2); (try clear hk); (try clear hi)))
  go_ret
  exact ⟨by first | rfl | (simp [errW_none, errW_some] <;> rfl) | (simp [*, errW_none, errW_some] <;> rfl), bl HB.out⟩

end Go.Proofs.YthfibffgmoblaaaDoor.PX

