/- Printed by a program of this session (wip/tools/prt.py) out of the translation: plain functions, and that the calls come to just them. No conditions beyond those that stand in each theorem. -/
import Derived.Test.YthfibffgmoblaaaDoorWw
import Derived.Test.YthfibffgmoblaaaDoorSq
import Derived.Test.YthfibffgmoblaaaDoorProg
import Derived.Below
import Derived.Deep.Draws
import Derived.Deep.AppendLies
import Derived.Maps.AppendAt
import Derived.OwnWalk
import Derived.Laws.BytesArg
import Derived.Laws.MakeOwn
import Derived.Laws.OwnMore
import Derived.Deep.OwnRows
import Derived.Tactics
import Derived.Lib.ConvBytes
import Derived.Laws.Slices
import Derived.WalkKit
import Derived.KernelRfl
import Derived.RowKit3
import Derived.Deep.LoopGhost
import Derived.Deep.QuietTactic
import Derived.BigQuiet
import Derived.WideLaws
import Derived.Deep.DeepCutAuto
import Derived.Deep.CutBlock
import Derived.Deep.RegionHeld3
import Derived.Laws.Rows
import Derived.Lib.AppendStr
import Derived.ArgAppend
import Derived.Laws.IdiomCopy
import Derived.OrdersHeld
import Derived.Laws.BitsLemmas
import Derived.RowKit
import Derived.Test.YthfibffgmoblaaaDoorGlob
import Derived.Test.YthfibffgmoblaaaDoorH3
import Derived.Test.YthfibffgmoblaaaDoorPBx
namespace Go.Proofs.YthfibffgmoblaaaDoor.PT
open Go.Proofs.YthfibffgmoblaaaDoor.Sq Go.RowKit Go.Proofs.YthfibffgmoblaaaDoorW.PrintWords Go.Proofs.YthfibffgmoblaaaDoorW.PrintLast Go.Proofs.YthfibffgmoblaaaDoorW.PrintMore Go.Proofs.YthfibffgmoblaaaDoor.PB
attribute [local go_sem] max2_int min2_int max_two min_two max_three min_three max_four min_four   -- for this text's walks alone
set_option linter.unusedVariables false
set_option linter.unusedSimpArgs false

theorem arr_cell {w : World} {g : Nat} {e : Int → Value} (o z : Nat) (l : List Int) (j : Int) (h : ∀ i, i < l.length → w.cell? ⟨g, o + i * z, none⟩ = some (e (l.getD i 0))) (h0 : 0 ≤ j) (hj : j < (l.length : Int)) : w.cell? ⟨g, o + j.toNat * z, none⟩ = some (e (rd l j)) := h j.toNat (by omega)
theorem arr_cell1 {w : World} {g : Nat} {e : Int → Value} (l : List Int) (j : Int) (h : ∀ i, i < l.length → w.cell? ⟨g, i, none⟩ = some (e (l.getD i 0))) (h0 : 0 ≤ j) (hj : j < (l.length : Int)) : w.cell? ⟨g, j.toNat, none⟩ = some (e (rd l j)) := h j.toNat (by omega)
theorem arr_cell2 {w : World} {g : Nat} {e : Int → Value} (z : Nat) (l : List Int) (j : Int) (h : ∀ i, i < l.length → w.cell? ⟨g, i * z, none⟩ = some (e (l.getD i 0))) (h0 : 0 ≤ j) (hj : j < (l.length : Int)) : w.cell? ⟨g, j.toNat * z, none⟩ = some (e (rd l j)) := h j.toNat (by omega)


def errW : Option Int → Value
 | none => .nilIface
 | some c => .iface 0 (.int .i64 c)
theorem errW_none : errW none = .nilIface := rfl
theorem errW_some (c : Int) : errW (some c) = .iface 0 (.int .i64 c) := rfl

-- the values' own types

end Go.Proofs.YthfibffgmoblaaaDoor.PT

namespace Go.Proofs.YthfibffgmoblaaaDoor.PT
open Go.Proofs.YthfibffgmoblaaaDoor.Sq Go.RowKit Go.Proofs.YthfibffgmoblaaaDoorW.PrintWords Go.Proofs.YthfibffgmoblaaaDoorW.PrintLast Go.Proofs.YthfibffgmoblaaaDoorW.PrintMore Go.Proofs.YthfibffgmoblaaaDoor.PB
attribute [local go_sem] max2_int min2_int max_two min_two max_three min_three max_four min_four   -- for this text's walks alone
set_option linter.unusedVariables false
set_option linter.unusedSimpArgs false

/-! ### frac_Text: function 21 -/
def frac_Text.f (k : Nat) (a0_0 : Int) (a0_1 : Int) (a0_2 : Int) : Option (ByteArray) := (frac_Right.f k a0_0 a0_1 a0_2).bind fun t102 => (if t102 = true then ((strconv_FormatInt.f a0_0 10).bind fun t103 => (if a0_1 = 1 then (if a0_2 = 0 then (some t103) else ((strconv_Itoa.f a0_2).bind fun t104 => (if 1 + t104.size ≤ 9223372036854775807 then (if t103.size + ((⟨#[101]⟩ : ByteArray) ++ t104).size ≤ 9223372036854775807 then (some (t103 ++ ((⟨#[101]⟩ : ByteArray) ++ t104))) else (none)) else (none)))) else ((strconv_FormatInt.f a0_1 10).bind fun t105 => (if 1 + t105.size ≤ 9223372036854775807 then (if t103.size + ((⟨#[47]⟩ : ByteArray) ++ t105).size ≤ 9223372036854775807 then (if a0_2 = 0 then (some (t103 ++ ((⟨#[47]⟩ : ByteArray) ++ t105))) else ((strconv_Itoa.f a0_2).bind fun t106 => (if 1 + t106.size ≤ 9223372036854775807 then (if (t103 ++ ((⟨#[47]⟩ : ByteArray) ++ t105)).size + ((⟨#[101]⟩ : ByteArray) ++ t106).size ≤ 9223372036854775807 then (some ((t103 ++ ((⟨#[47]⟩ : ByteArray) ++ t105)) ++ ((⟨#[101]⟩ : ByteArray) ++ t106))) else (none)) else (none)))) else (none)) else (none))))) else (some (⟨#[]⟩ : ByteArray)))
theorem frac_Text.mono : ∀ a0 a1 a2 k, LeO (frac_Text.f k a0 a1 a2) (frac_Text.f (k + 1) a0 a1 a2) := by
 intro a0 a1 a2 k
 unfold frac_Text.f
 repeat' first
   | (with_reducible exact frac_Right.mono _ _ _ _)
   | (with_reducible exact LeO.refl _)
   | (with_reducible exact LeO.none _)
   | (with_reducible refine LeO.ite ?_ ?_)
   | (with_reducible refine LeO.bind ?_ (fun _ => ?_))
   | exact frac_Right.mono _ _ _ _
   | exact LeO.none _
   | refine LeO.ite ?_ ?_
   | refine LeO.bind ?_ (fun _ => ?_)
set_option maxHeartbeats 8000000 in
set_option maxRecDepth 100000 in
theorem frac_Text.calls (k : Nat) (a0_0 : Int) (a0_1 : Int) (a0_2 : Int) (r : ByteArray) (w : World) (hG : Glob [2] w) (h : frac_Text.f k a0_0 a0_1 a0_2 = some r) :
  Calls Tryd.prog 21 #[.agg #[.int .i64 a0_0, .int .i64 a0_1, .int .i64 a0_2]] w fun e w' => e = .returned (.string r) ∧ Below w.heap.size w w' := by
 have hu29 := Tryd.underlying29
 have HB := Aside0.mk (Below.refl w.heap.size w)
 have H : ((frac_Right.f k a0_0 a0_1 a0_2).bind fun t102 => (if t102 = true then ((strconv_FormatInt.f a0_0 10).bind fun t103 => (if a0_1 = 1 then (if a0_2 = 0 then (some t103) else ((strconv_Itoa.f a0_2).bind fun t104 => (if 1 + t104.size ≤ 9223372036854775807 then (if t103.size + ((⟨#[101]⟩ : ByteArray) ++ t104).size ≤ 9223372036854775807 then (some (t103 ++ ((⟨#[101]⟩ : ByteArray) ++ t104))) else (none)) else (none)))) else ((strconv_FormatInt.f a0_1 10).bind fun t105 => (if 1 + t105.size ≤ 9223372036854775807 then (if t103.size + ((⟨#[47]⟩ : ByteArray) ++ t105).size ≤ 9223372036854775807 then (if a0_2 = 0 then (some (t103 ++ ((⟨#[47]⟩ : ByteArray) ++ t105))) else ((strconv_Itoa.f a0_2).bind fun t106 => (if 1 + t106.size ≤ 9223372036854775807 then (if (t103 ++ ((⟨#[47]⟩ : ByteArray) ++ t105)).size + ((⟨#[101]⟩ : ByteArray) ++ t106).size ≤ 9223372036854775807 then (some ((t103 ++ ((⟨#[47]⟩ : ByteArray) ++ t105)) ++ ((⟨#[101]⟩ : ByteArray) ++ t106))) else (none)) else (none)))) else (none)) else (none))))) else (some (⟨#[]⟩ : ByteArray)))) = some r := h
 clear h
 replace H := Option.bind_eq_some_iff.mp H
 obtain ⟨t102, A20, H⟩ := H
 replace H : (if t102 = true then ((strconv_FormatInt.f a0_0 10).bind fun t103 => (if a0_1 = 1 then (if a0_2 = 0 then (some t103) else ((strconv_Itoa.f a0_2).bind fun t104 => (if 1 + t104.size ≤ 9223372036854775807 then (if t103.size + ((⟨#[101]⟩ : ByteArray) ++ t104).size ≤ 9223372036854775807 then (some (t103 ++ ((⟨#[101]⟩ : ByteArray) ++ t104))) else (none)) else (none)))) else ((strconv_FormatInt.f a0_1 10).bind fun t105 => (if 1 + t105.size ≤ 9223372036854775807 then (if t103.size + ((⟨#[47]⟩ : ByteArray) ++ t105).size ≤ 9223372036854775807 then (if a0_2 = 0 then (some (t103 ++ ((⟨#[47]⟩ : ByteArray) ++ t105))) else ((strconv_Itoa.f a0_2).bind fun t106 => (if 1 + t106.size ≤ 9223372036854775807 then (if (t103 ++ ((⟨#[47]⟩ : ByteArray) ++ t105)).size + ((⟨#[101]⟩ : ByteArray) ++ t106).size ≤ 9223372036854775807 then (some ((t103 ++ ((⟨#[47]⟩ : ByteArray) ++ t105)) ++ ((⟨#[101]⟩ : ByteArray) ++ t106))) else (none)) else (none)))) else (none)) else (none))))) else (some (⟨#[]⟩ : ByteArray))) = some r := H
 have A2 := Aside0.mk A20
 clear A20
 by_cases c3 : t102 = true
 ·subst c3
  have H1 : ((strconv_FormatInt.f a0_0 10).bind fun t103 => (if a0_1 = 1 then (if a0_2 = 0 then (some t103) else ((strconv_Itoa.f a0_2).bind fun t104 => (if 1 + t104.size ≤ 9223372036854775807 then (if t103.size + ((⟨#[101]⟩ : ByteArray) ++ t104).size ≤ 9223372036854775807 then (some (t103 ++ ((⟨#[101]⟩ : ByteArray) ++ t104))) else (none)) else (none)))) else ((strconv_FormatInt.f a0_1 10).bind fun t105 => (if 1 + t105.size ≤ 9223372036854775807 then (if t103.size + ((⟨#[47]⟩ : ByteArray) ++ t105).size ≤ 9223372036854775807 then (if a0_2 = 0 then (some (t103 ++ ((⟨#[47]⟩ : ByteArray) ++ t105))) else ((strconv_Itoa.f a0_2).bind fun t106 => (if 1 + t106.size ≤ 9223372036854775807 then (if (t103 ++ ((⟨#[47]⟩ : ByteArray) ++ t105)).size + ((⟨#[101]⟩ : ByteArray) ++ t106).size ≤ 9223372036854775807 then (some ((t103 ++ ((⟨#[47]⟩ : ByteArray) ++ t105)) ++ ((⟨#[101]⟩ : ByteArray) ++ t106))) else (none)) else (none)))) else (none)) else (none))))) = some r := by rw [if_pos rfl] at H; exact H
  clear H
  have H := H1
  clear H1
  replace H := Option.bind_eq_some_iff.mp H
  obtain ⟨t103, A40, H⟩ := H
  replace H : (if a0_1 = 1 then (if a0_2 = 0 then (some t103) else ((strconv_Itoa.f a0_2).bind fun t104 => (if 1 + t104.size ≤ 9223372036854775807 then (if t103.size + ((⟨#[101]⟩ : ByteArray) ++ t104).size ≤ 9223372036854775807 then (some (t103 ++ ((⟨#[101]⟩ : ByteArray) ++ t104))) else (none)) else (none)))) else ((strconv_FormatInt.f a0_1 10).bind fun t105 => (if 1 + t105.size ≤ 9223372036854775807 then (if t103.size + ((⟨#[47]⟩ : ByteArray) ++ t105).size ≤ 9223372036854775807 then (if a0_2 = 0 then (some (t103 ++ ((⟨#[47]⟩ : ByteArray) ++ t105))) else ((strconv_Itoa.f a0_2).bind fun t106 => (if 1 + t106.size ≤ 9223372036854775807 then (if (t103 ++ ((⟨#[47]⟩ : ByteArray) ++ t105)).size + ((⟨#[101]⟩ : ByteArray) ++ t106).size ≤ 9223372036854775807 then (some ((t103 ++ ((⟨#[47]⟩ : ByteArray) ++ t105)) ++ ((⟨#[101]⟩ : ByteArray) ++ t106))) else (none)) else (none)))) else (none)) else (none)))) = some r := H
  have A4 := Aside0.mk A40
  clear A40
  by_cases c5 : a0_1 = 1
  ·rw [if_pos c5] at H
   have c5b0 : (a0_1 == 1) = true := beq_iff_eq.mpr c5
   have c5b1 : (a0_1 != 1) = false := bne_eq_false_iff_eq.mpr c5
   clear c5
   by_cases c6 : a0_2 = 0
   ·rw [if_pos c6] at H
    have c6b0 : (a0_2 == 0) = true := beq_iff_eq.mpr c6
    have c6b1 : (a0_2 != 0) = false := bne_eq_false_iff_eq.mpr c6
    clear c6
    obtain rfl := Option.some.inj H
    go_enter Tryd.func21, Tryd.ntmps21
    go_wp2_with (first | ((with_reducible refine gate_dst (N := 1) rfl ?_); refine box_event ?hg (N := 1) ?hd (cs := #[.int .i64 a0_0, .int .i64 a0_1, .int .i64 a0_2]) (t := 29) ?hr ?_; (case hd => rfl); (case hg => rfl); (case hr => first | (go_simp; done) | (go_simp; rfl)); intro gb101 hg w7 hbox hb; have n0_ := sb HB hb; have n1_ := Aside0.mk (hbox); have n2_ := Aside0.mk ((by rw [hg]; exact (below_size (bl HB.out)) : w.heap.size ≤ gb101)); have n3_ := Aside0.mk ((by rw [hg]; exact (below_size (bl HB.out)) : w.heap.size ≤ gb101)); clear HB; have HB := n0_; have BK101 := n1_; have GW101 := n2_; have GE101 := n3_; clear n0_ n1_ n2_ n3_; clear hb hbox hg; obtain ⟨hcz8_0, hcz8_1, hcz8_2⟩ := hc3 BK101.out; obtain ⟨hfz8_0, hfz8_1, hfz8_2⟩ := hf3 BK101.out) | (go_at_call 47; (with_reducible refine (frac_Right.calls k a0_0 a0_1 a0_2 true _ A2.out).mono ?_); rintro e w9 ⟨rfl, hb⟩; replace BK101 := kb BK101 hb; replace HB := sb HB hb; (try clear hb); (try clear hb2); (try clear hk); (try clear hi); obtain ⟨hcz10_0, hcz10_1, hcz10_2⟩ := hc3 BK101.out; obtain ⟨hfz10_0, hfz10_1, hfz10_2⟩ := hf3 BK101.out) | (go_at_call 52; (with_reducible refine (strconv_FormatInt.calls a0_0 10 t103 _ (Glob.use hG (by decide) (bl HB.out)) A4.out).mono ?_); rintro e w11 ⟨rfl, hb⟩; replace BK101 := kb BK101 hb; replace HB := sb HB hb; (try clear hb); (try clear hb2); (try clear hk); (try clear hi); obtain ⟨hcz12_0, hcz12_1, hcz12_2⟩ := hc3 BK101.out; obtain ⟨hfz12_0, hfz12_1, hfz12_2⟩ := hf3 BK101.out))
    go_ret
    exact ⟨by first | rfl | (simp [errW_none, errW_some] <;> rfl) | (simp [*, errW_none, errW_some] <;> rfl), bl HB.out⟩
   ·rw [if_neg c6] at H
    have c6b0 : (a0_2 == 0) = false := beq_eq_false_iff_ne.mpr c6
    have c6b1 : (a0_2 != 0) = true := bne_iff_ne.mpr c6
    replace H := Option.bind_eq_some_iff.mp H
    obtain ⟨t104, A130, H⟩ := H
    replace H : (if 1 + t104.size ≤ 9223372036854775807 then (if t103.size + ((⟨#[101]⟩ : ByteArray) ++ t104).size ≤ 9223372036854775807 then (some (t103 ++ ((⟨#[101]⟩ : ByteArray) ++ t104))) else (none)) else (none)) = some r := H
    have A13 := Aside0.mk A130
    clear A130
    by_cases c14 : 1 + t104.size ≤ 9223372036854775807
    ·rw [if_pos c14] at H
     have c14b0 := eq_true c14
     have c14b1 : decide (1 + t104.size ≤ 9223372036854775807) = true := decide_eq_true c14
     try have c14b2 : (9223372036854775807 < 1 + t104.size) = False := eq_false (Nat.not_lt.2 c14)
     by_cases c15 : t103.size + ((⟨#[101]⟩ : ByteArray) ++ t104).size ≤ 9223372036854775807
     ·rw [if_pos c15] at H
      have c15b0 := eq_true c15
      have c15b1 : decide (t103.size + ((⟨#[101]⟩ : ByteArray) ++ t104).size ≤ 9223372036854775807) = true := decide_eq_true c15
      try have c15b2 : (9223372036854775807 < t103.size + ((⟨#[101]⟩ : ByteArray) ++ t104).size) = False := eq_false (Nat.not_lt.2 c15)
      (try have c15b3 : (9223372036854775807 < t103.size + (1 + t104.size)) = False := eq_false (by have h_ := c15; simp only [ByteArray.size_append] at h_; have e0_ : (⟨#[101]⟩ : ByteArray).size = 1 := rfl; omega))
      obtain rfl := Option.some.inj H
      go_enter Tryd.func21, Tryd.ntmps21
      go_wp2_with (first | ((with_reducible refine gate_dst (N := 1) rfl ?_); refine box_event ?hg (N := 1) ?hd (cs := #[.int .i64 a0_0, .int .i64 a0_1, .int .i64 a0_2]) (t := 29) ?hr ?_; (case hd => rfl); (case hg => rfl); (case hr => first | (go_simp; done) | (go_simp; rfl)); intro gb101 hg w16 hbox hb; have n0_ := sb HB hb; have n1_ := Aside0.mk (hbox); have n2_ := Aside0.mk ((by rw [hg]; exact (below_size (bl HB.out)) : w.heap.size ≤ gb101)); have n3_ := Aside0.mk ((by rw [hg]; exact (below_size (bl HB.out)) : w.heap.size ≤ gb101)); clear HB; have HB := n0_; have BK101 := n1_; have GW101 := n2_; have GE101 := n3_; clear n0_ n1_ n2_ n3_; clear hb hbox hg; obtain ⟨hcz17_0, hcz17_1, hcz17_2⟩ := hc3 BK101.out; obtain ⟨hfz17_0, hfz17_1, hfz17_2⟩ := hf3 BK101.out) | (go_at_call 47; (with_reducible refine (frac_Right.calls k a0_0 a0_1 a0_2 true _ A2.out).mono ?_); rintro e w18 ⟨rfl, hb⟩; replace BK101 := kb BK101 hb; replace HB := sb HB hb; (try clear hb); (try clear hb2); (try clear hk); (try clear hi); obtain ⟨hcz19_0, hcz19_1, hcz19_2⟩ := hc3 BK101.out; obtain ⟨hfz19_0, hfz19_1, hfz19_2⟩ := hf3 BK101.out) | (go_at_call 52; (with_reducible refine (strconv_FormatInt.calls a0_0 10 t103 _ (Glob.use hG (by decide) (bl HB.out)) A4.out).mono ?_); rintro e w20 ⟨rfl, hb⟩; replace BK101 := kb BK101 hb; replace HB := sb HB hb; (try clear hb); (try clear hb2); (try clear hk); (try clear hi); obtain ⟨hcz21_0, hcz21_1, hcz21_2⟩ := hc3 BK101.out; obtain ⟨hfz21_0, hfz21_1, hfz21_2⟩ := hf3 BK101.out) | (go_at_call 23; (with_reducible refine (strconv_Itoa.calls a0_2 t104 _ (Glob.use hG (by decide) (bl HB.out)) A13.out).mono ?_); rintro e w22 ⟨rfl, hb⟩; replace BK101 := kb BK101 hb; replace HB := sb HB hb; (try clear hb); (try clear hb2); (try clear hk); (try clear hi)))
      go_ret
      exact ⟨by first | rfl | (simp [errW_none, errW_some] <;> rfl) | (simp [*, errW_none, errW_some] <;> rfl), bl HB.out⟩
     ·rw [if_neg c15] at H
      exact absurd H (by simp)
    ·rw [if_neg c14] at H
     exact absurd H (by simp)
  ·rw [if_neg c5] at H
   have c5b0 : (a0_1 == 1) = false := beq_eq_false_iff_ne.mpr c5
   have c5b1 : (a0_1 != 1) = true := bne_iff_ne.mpr c5
   replace H := Option.bind_eq_some_iff.mp H
   obtain ⟨t105, A230, H⟩ := H
   replace H : (if 1 + t105.size ≤ 9223372036854775807 then (if t103.size + ((⟨#[47]⟩ : ByteArray) ++ t105).size ≤ 9223372036854775807 then (if a0_2 = 0 then (some (t103 ++ ((⟨#[47]⟩ : ByteArray) ++ t105))) else ((strconv_Itoa.f a0_2).bind fun t106 => (if 1 + t106.size ≤ 9223372036854775807 then (if (t103 ++ ((⟨#[47]⟩ : ByteArray) ++ t105)).size + ((⟨#[101]⟩ : ByteArray) ++ t106).size ≤ 9223372036854775807 then (some ((t103 ++ ((⟨#[47]⟩ : ByteArray) ++ t105)) ++ ((⟨#[101]⟩ : ByteArray) ++ t106))) else (none)) else (none)))) else (none)) else (none)) = some r := H
   have A23 := Aside0.mk A230
   clear A230
   by_cases c24 : 1 + t105.size ≤ 9223372036854775807
   ·rw [if_pos c24] at H
    have c24b0 := eq_true c24
    have c24b1 : decide (1 + t105.size ≤ 9223372036854775807) = true := decide_eq_true c24
    try have c24b2 : (9223372036854775807 < 1 + t105.size) = False := eq_false (Nat.not_lt.2 c24)
    by_cases c25 : t103.size + ((⟨#[47]⟩ : ByteArray) ++ t105).size ≤ 9223372036854775807
    ·rw [if_pos c25] at H
     have c25b0 := eq_true c25
     have c25b1 : decide (t103.size + ((⟨#[47]⟩ : ByteArray) ++ t105).size ≤ 9223372036854775807) = true := decide_eq_true c25
     try have c25b2 : (9223372036854775807 < t103.size + ((⟨#[47]⟩ : ByteArray) ++ t105).size) = False := eq_false (Nat.not_lt.2 c25)
     (try have c25b3 : (9223372036854775807 < t103.size + (1 + t105.size)) = False := eq_false (by have h_ := c25; simp only [ByteArray.size_append] at h_; have e0_ : (⟨#[47]⟩ : ByteArray).size = 1 := rfl; omega))
     by_cases c26 : a0_2 = 0
     ·rw [if_pos c26] at H
      have c26b0 : (a0_2 == 0) = true := beq_iff_eq.mpr c26
      have c26b1 : (a0_2 != 0) = false := bne_eq_false_iff_eq.mpr c26
      clear c26
      obtain rfl := Option.some.inj H
      go_enter Tryd.func21, Tryd.ntmps21
      go_wp2_with (first | ((with_reducible refine gate_dst (N := 1) rfl ?_); refine box_event ?hg (N := 1) ?hd (cs := #[.int .i64 a0_0, .int .i64 a0_1, .int .i64 a0_2]) (t := 29) ?hr ?_; (case hd => rfl); (case hg => rfl); (case hr => first | (go_simp; done) | (go_simp; rfl)); intro gb101 hg w27 hbox hb; have n0_ := sb HB hb; have n1_ := Aside0.mk (hbox); have n2_ := Aside0.mk ((by rw [hg]; exact (below_size (bl HB.out)) : w.heap.size ≤ gb101)); have n3_ := Aside0.mk ((by rw [hg]; exact (below_size (bl HB.out)) : w.heap.size ≤ gb101)); clear HB; have HB := n0_; have BK101 := n1_; have GW101 := n2_; have GE101 := n3_; clear n0_ n1_ n2_ n3_; clear hb hbox hg; obtain ⟨hcz28_0, hcz28_1, hcz28_2⟩ := hc3 BK101.out; obtain ⟨hfz28_0, hfz28_1, hfz28_2⟩ := hf3 BK101.out) | (go_at_call 47; (with_reducible refine (frac_Right.calls k a0_0 a0_1 a0_2 true _ A2.out).mono ?_); rintro e w29 ⟨rfl, hb⟩; replace BK101 := kb BK101 hb; replace HB := sb HB hb; (try clear hb); (try clear hb2); (try clear hk); (try clear hi); obtain ⟨hcz30_0, hcz30_1, hcz30_2⟩ := hc3 BK101.out; obtain ⟨hfz30_0, hfz30_1, hfz30_2⟩ := hf3 BK101.out) | (go_at_call 52; (with_reducible refine (strconv_FormatInt.calls a0_0 10 t103 _ (Glob.use hG (by decide) (bl HB.out)) A4.out).mono ?_); rintro e w31 ⟨rfl, hb⟩; replace BK101 := kb BK101 hb; replace HB := sb HB hb; (try clear hb); (try clear hb2); (try clear hk); (try clear hi); obtain ⟨hcz32_0, hcz32_1, hcz32_2⟩ := hc3 BK101.out; obtain ⟨hfz32_0, hfz32_1, hfz32_2⟩ := hf3 BK101.out) | (go_at_call 52; (with_reducible refine (strconv_FormatInt.calls a0_1 10 t105 _ (Glob.use hG (by decide) (bl HB.out)) A23.out).mono ?_); rintro e w33 ⟨rfl, hb⟩; replace BK101 := kb BK101 hb; replace HB := sb HB hb; (try clear hb); (try clear hb2); (try clear hk); (try clear hi); obtain ⟨hcz34_0, hcz34_1, hcz34_2⟩ := hc3 BK101.out; obtain ⟨hfz34_0, hfz34_1, hfz34_2⟩ := hf3 BK101.out))
      go_ret
      exact ⟨by first | rfl | (simp [errW_none, errW_some] <;> rfl) | (simp [*, errW_none, errW_some] <;> rfl), bl HB.out⟩
     ·rw [if_neg c26] at H
      have c26b0 : (a0_2 == 0) = false := beq_eq_false_iff_ne.mpr c26
      have c26b1 : (a0_2 != 0) = true := bne_iff_ne.mpr c26
      replace H := Option.bind_eq_some_iff.mp H
      obtain ⟨t106, A350, H⟩ := H
      replace H : (if 1 + t106.size ≤ 9223372036854775807 then (if (t103 ++ ((⟨#[47]⟩ : ByteArray) ++ t105)).size + ((⟨#[101]⟩ : ByteArray) ++ t106).size ≤ 9223372036854775807 then (some ((t103 ++ ((⟨#[47]⟩ : ByteArray) ++ t105)) ++ ((⟨#[101]⟩ : ByteArray) ++ t106))) else (none)) else (none)) = some r := H
      have A35 := Aside0.mk A350
      clear A350
      by_cases c36 : 1 + t106.size ≤ 9223372036854775807
      ·rw [if_pos c36] at H
       have c36b0 := eq_true c36
       have c36b1 : decide (1 + t106.size ≤ 9223372036854775807) = true := decide_eq_true c36
       try have c36b2 : (9223372036854775807 < 1 + t106.size) = False := eq_false (Nat.not_lt.2 c36)
       by_cases c37 : (t103 ++ ((⟨#[47]⟩ : ByteArray) ++ t105)).size + ((⟨#[101]⟩ : ByteArray) ++ t106).size ≤ 9223372036854775807
       ·rw [if_pos c37] at H
        have c37b0 := eq_true c37
        have c37b1 : decide ((t103 ++ ((⟨#[47]⟩ : ByteArray) ++ t105)).size + ((⟨#[101]⟩ : ByteArray) ++ t106).size ≤ 9223372036854775807) = true := decide_eq_true c37
        try have c37b2 : (9223372036854775807 < (t103 ++ ((⟨#[47]⟩ : ByteArray) ++ t105)).size + ((⟨#[101]⟩ : ByteArray) ++ t106).size) = False := eq_false (Nat.not_lt.2 c37)
        (try have c37b3 : (9223372036854775807 < t103.size + (1 + t105.size) + (1 + t106.size)) = False := eq_false (by have h_ := c37; simp only [ByteArray.size_append] at h_; have e0_ : (⟨#[101]⟩ : ByteArray).size = 1 := rfl; have e1_ : (⟨#[47]⟩ : ByteArray).size = 1 := rfl; omega))
        obtain rfl := Option.some.inj H
        go_enter Tryd.func21, Tryd.ntmps21
        go_wp2_with (first | ((with_reducible refine gate_dst (N := 1) rfl ?_); refine box_event ?hg (N := 1) ?hd (cs := #[.int .i64 a0_0, .int .i64 a0_1, .int .i64 a0_2]) (t := 29) ?hr ?_; (case hd => rfl); (case hg => rfl); (case hr => first | (go_simp; done) | (go_simp; rfl)); intro gb101 hg w38 hbox hb; have n0_ := sb HB hb; have n1_ := Aside0.mk (hbox); have n2_ := Aside0.mk ((by rw [hg]; exact (below_size (bl HB.out)) : w.heap.size ≤ gb101)); have n3_ := Aside0.mk ((by rw [hg]; exact (below_size (bl HB.out)) : w.heap.size ≤ gb101)); clear HB; have HB := n0_; have BK101 := n1_; have GW101 := n2_; have GE101 := n3_; clear n0_ n1_ n2_ n3_; clear hb hbox hg; obtain ⟨hcz39_0, hcz39_1, hcz39_2⟩ := hc3 BK101.out; obtain ⟨hfz39_0, hfz39_1, hfz39_2⟩ := hf3 BK101.out) | (go_at_call 47; (with_reducible refine (frac_Right.calls k a0_0 a0_1 a0_2 true _ A2.out).mono ?_); rintro e w40 ⟨rfl, hb⟩; replace BK101 := kb BK101 hb; replace HB := sb HB hb; (try clear hb); (try clear hb2); (try clear hk); (try clear hi); obtain ⟨hcz41_0, hcz41_1, hcz41_2⟩ := hc3 BK101.out; obtain ⟨hfz41_0, hfz41_1, hfz41_2⟩ := hf3 BK101.out) | (go_at_call 52; (with_reducible refine (strconv_FormatInt.calls a0_0 10 t103 _ (Glob.use hG (by decide) (bl HB.out)) A4.out).mono ?_); rintro e w42 ⟨rfl, hb⟩; replace BK101 := kb BK101 hb; replace HB := sb HB hb; (try clear hb); (try clear hb2); (try clear hk); (try clear hi); obtain ⟨hcz43_0, hcz43_1, hcz43_2⟩ := hc3 BK101.out; obtain ⟨hfz43_0, hfz43_1, hfz43_2⟩ := hf3 BK101.out) | (go_at_call 52; (with_reducible refine (strconv_FormatInt.calls a0_1 10 t105 _ (Glob.use hG (by decide) (bl HB.out)) A23.out).mono ?_); rintro e w44 ⟨rfl, hb⟩; replace BK101 := kb BK101 hb; replace HB := sb HB hb; (try clear hb); (try clear hb2); (try clear hk); (try clear hi); obtain ⟨hcz45_0, hcz45_1, hcz45_2⟩ := hc3 BK101.out; obtain ⟨hfz45_0, hfz45_1, hfz45_2⟩ := hf3 BK101.out) | (go_at_call 23; (with_reducible refine (strconv_Itoa.calls a0_2 t106 _ (Glob.use hG (by decide) (bl HB.out)) A35.out).mono ?_); rintro e w46 ⟨rfl, hb⟩; replace BK101 := kb BK101 hb; replace HB := sb HB hb; (try clear hb); (try clear hb2); (try clear hk); (try clear hi)))
        go_ret
        exact ⟨by first | rfl | (simp [errW_none, errW_some] <;> rfl) | (simp [*, errW_none, errW_some] <;> rfl), bl HB.out⟩
       ·rw [if_neg c37] at H
        exact absurd H (by simp)
      ·rw [if_neg c36] at H
       exact absurd H (by simp)
    ·rw [if_neg c25] at H
     exact absurd H (by simp)
   ·rw [if_neg c24] at H
    exact absurd H (by simp)
 ·replace c3 := Bool.eq_false_iff.mpr c3
  subst c3
  have H1 : (some (⟨#[]⟩ : ByteArray)) = some r := by rw [if_neg (show ¬ (false = true) by decide)] at H; exact H
  clear H
  have H := H1
  clear H1
  obtain rfl := Option.some.inj H
  go_enter Tryd.func21, Tryd.ntmps21
  go_wp2_with (first | ((with_reducible refine gate_dst (N := 1) rfl ?_); refine box_event ?hg (N := 1) ?hd (cs := #[.int .i64 a0_0, .int .i64 a0_1, .int .i64 a0_2]) (t := 29) ?hr ?_; (case hd => rfl); (case hg => rfl); (case hr => first | (go_simp; done) | (go_simp; rfl)); intro gb101 hg w47 hbox hb; have n0_ := sb HB hb; have n1_ := Aside0.mk (hbox); have n2_ := Aside0.mk ((by rw [hg]; exact (below_size (bl HB.out)) : w.heap.size ≤ gb101)); have n3_ := Aside0.mk ((by rw [hg]; exact (below_size (bl HB.out)) : w.heap.size ≤ gb101)); clear HB; have HB := n0_; have BK101 := n1_; have GW101 := n2_; have GE101 := n3_; clear n0_ n1_ n2_ n3_; clear hb hbox hg; obtain ⟨hcz48_0, hcz48_1, hcz48_2⟩ := hc3 BK101.out; obtain ⟨hfz48_0, hfz48_1, hfz48_2⟩ := hf3 BK101.out) | (go_at_call 47; (with_reducible refine (frac_Right.calls k a0_0 a0_1 a0_2 false _ A2.out).mono ?_); rintro e w49 ⟨rfl, hb⟩; replace BK101 := kb BK101 hb; replace HB := sb HB hb; (try clear hb); (try clear hb2); (try clear hk); (try clear hi)))
  go_ret
  exact ⟨by first | rfl | (simp [errW_none, errW_some] <;> rfl) | (simp [*, errW_none, errW_some] <;> rfl), bl HB.out⟩

end Go.Proofs.YthfibffgmoblaaaDoor.PT

