/- Printed by a program of this session (wip/tools/prt.py) out of the translation: plain functions, and that the calls come to just them. No conditions beyond those that stand in each theorem. -/
import Derived.Test.YthfibffgmoblaaaDoorWw
import Derived.Test.YthfibffgmoblaaaDoorSq
import Derived.Test.YthfibffgmoblaaaDoorProg
import Derived.Below
import Derived.Deep.Draws
import Derived.Deep.AppendLies
import Derived.Maps.AppendAt
import Derived.OwnWalk
import Derived.Laws.BytesArg
import Derived.Laws.MakeOwn
import Derived.Laws.OwnMore
import Derived.Deep.OwnRows
import Derived.Tactics
import Derived.Lib.ConvBytes
import Derived.Laws.Slices
import Derived.WalkKit
import Derived.KernelRfl
import Derived.RowKit3
import Derived.Deep.LoopGhost
import Derived.Deep.QuietTactic
import Derived.BigQuiet
import Derived.WideLaws
import Derived.Deep.DeepCutAuto
import Derived.Deep.CutBlock
import Derived.Deep.RegionHeld3
import Derived.Laws.Rows
import Derived.Lib.AppendStr
import Derived.ArgAppend
import Derived.Laws.IdiomCopy
import Derived.OrdersHeld
import Derived.Laws.BitsLemmas
import Derived.RowKit
import Derived.Test.YthfibffgmoblaaaDoorGlob
import Derived.Test.YthfibffgmoblaaaDoorPBx
namespace Go.Proofs.YthfibffgmoblaaaDoor.PS
open Go.Proofs.YthfibffgmoblaaaDoor.Sq Go.RowKit Go.Proofs.YthfibffgmoblaaaDoorW.PrintWords Go.Proofs.YthfibffgmoblaaaDoorW.PrintLast Go.Proofs.YthfibffgmoblaaaDoorW.PrintMore Go.Proofs.YthfibffgmoblaaaDoor.PB
attribute [local go_sem] max2_int min2_int max_two min_two max_three min_three max_four min_four   -- for this text's walks alone
set_option linter.unusedVariables false
set_option linter.unusedSimpArgs false

theorem arr_cell {w : World} {g : Nat} {e : Int → Value} (o z : Nat) (l : List Int) (j : Int) (h : ∀ i, i < l.length → w.cell? ⟨g, o + i * z, none⟩ = some (e (l.getD i 0))) (h0 : 0 ≤ j) (hj : j < (l.length : Int)) : w.cell? ⟨g, o + j.toNat * z, none⟩ = some (e (rd l j)) := h j.toNat (by omega)
theorem arr_cell1 {w : World} {g : Nat} {e : Int → Value} (l : List Int) (j : Int) (h : ∀ i, i < l.length → w.cell? ⟨g, i, none⟩ = some (e (l.getD i 0))) (h0 : 0 ≤ j) (hj : j < (l.length : Int)) : w.cell? ⟨g, j.toNat, none⟩ = some (e (rd l j)) := h j.toNat (by omega)
theorem arr_cell2 {w : World} {g : Nat} {e : Int → Value} (z : Nat) (l : List Int) (j : Int) (h : ∀ i, i < l.length → w.cell? ⟨g, i * z, none⟩ = some (e (l.getD i 0))) (h0 : 0 ≤ j) (hj : j < (l.length : Int)) : w.cell? ⟨g, j.toNat * z, none⟩ = some (e (rd l j)) := h j.toNat (by omega)


def errW : Option Int → Value
 | none => .nilIface
 | some c => .iface 0 (.int .i64 c)
theorem errW_none : errW none = .nilIface := rfl
theorem errW_some (c : Int) : errW (some c) = .iface 0 (.int .i64 c) := rfl

-- the values' own types

end Go.Proofs.YthfibffgmoblaaaDoor.PS

namespace Go.Proofs.YthfibffgmoblaaaDoor.PS
open Go.Proofs.YthfibffgmoblaaaDoor.Sq Go.RowKit Go.Proofs.YthfibffgmoblaaaDoorW.PrintWords Go.Proofs.YthfibffgmoblaaaDoorW.PrintLast Go.Proofs.YthfibffgmoblaaaDoorW.PrintMore Go.Proofs.YthfibffgmoblaaaDoor.PB
attribute [local go_sem] max2_int min2_int max_two min_two max_three min_three max_four min_four   -- for this text's walks alone
set_option linter.unusedVariables false
set_option linter.unusedSimpArgs false

/-! ### drachmref04_Spec_Worth: function 10 -/
def drachmref04_Spec_Worth.j0 : Nat → Int → Int → Int → Int → Int → Int → Int → Int → Int → Int → Int → Int → Int → Int → Int → Option (Int × Int × Int × Int × Int × Int × Int × Int × Int × Int × Int)
 | 0, _, _, _, _, _, _, _, _, _, _, _, _, _, _, _ => none
 | k + 1, x102000, x102001, x102002, x102003, x102004, x102005, x102006, x102007, x102008, x102009, x102010, x108000, x108001, x108002, x108003 => if (Int.tmod (wrap64 ((Int.tmod x102010 8) + 8)) 8) < 4 then (some (x108000, x108001, x108002, Int.tmod x102003 10, Int.tmod x102004 10, Int.tmod x102005 10, Int.tmod x102006 10, Int.tmod x102007 10, Int.tmod x102008 10, Int.tmod x102009 10, Int.tmod (wrap64 ((Int.tmod x102010 8) + 8)) 8)) else (some (x108000, x108001, x108002, Int.tmod x102003 10, Int.tmod x102004 10, Int.tmod x102005 10, Int.tmod x102006 10, Int.tmod x102007 10, Int.tmod x102008 10, Int.tmod x102009 10, 0))
def drachmref04_Spec_Worth.f (k : Nat) (a0_0 : Int) (a0_1 : Int) (a0_2 : Int) (a0_3 : Int) (a0_4 : Int) (a0_5 : Int) (a0_6 : Int) (a0_7 : Int) (a0_8 : Int) (a0_9 : Int) (a0_10 : Int) : Option (Int × Int × Int × Int × Int × Int × Int × Int × Int × Int × Int) := (drachmref02_Make.f k a0_0 a0_1 a0_2).bind fun bt103 => (if bt103.2.2.2 = 0 then (drachmref04_Spec_Worth.j0 k a0_0 a0_1 a0_2 a0_3 a0_4 a0_5 a0_6 a0_7 a0_8 a0_9 a0_10 bt103.1 bt103.2.1 bt103.2.2.1 bt103.2.2.2) else (drachmref04_Spec_Worth.j0 k a0_0 a0_1 a0_2 a0_3 a0_4 a0_5 a0_6 a0_7 a0_8 a0_9 a0_10 1 1 0 bt103.2.2.2))
theorem drachmref04_Spec_Worth.mono_l : ∀ k, (∀ y0 y1 y2 y3 y4 y5 y6 y7 y8 y9 y10 y11 y12 y13 y14, LeO (drachmref04_Spec_Worth.j0 k y0 y1 y2 y3 y4 y5 y6 y7 y8 y9 y10 y11 y12 y13 y14) (drachmref04_Spec_Worth.j0 (k + 1) y0 y1 y2 y3 y4 y5 y6 y7 y8 y9 y10 y11 y12 y13 y14))
 | 0 => fun _ _ _ _ _ _ _ _ _ _ _ _ _ _ _ r h => by simp [drachmref04_Spec_Worth.j0] at h
 | k + 1 => by
  have ih0 := drachmref04_Spec_Worth.mono_l k
  ·intro y0 y1 y2 y3 y4 y5 y6 y7 y8 y9 y10 y11 y12 y13 y14
   unfold drachmref04_Spec_Worth.j0
   repeat' first
   | (with_reducible exact ih0 _ _ _ _ _ _ _ _ _ _ _ _ _ _ _)
   | (with_reducible exact drachmref02_Make.mono _ _ _ _)
   | (with_reducible exact LeO.refl _)
   | (with_reducible exact LeO.none _)
   | (with_reducible refine LeO.ite ?_ ?_)
   | (with_reducible refine LeO.bind ?_ (fun _ => ?_))
   | exact ih0 _ _ _ _ _ _ _ _ _ _ _ _ _ _ _
   | exact drachmref02_Make.mono _ _ _ _
   | exact LeO.none _
   | refine LeO.ite ?_ ?_
   | refine LeO.bind ?_ (fun _ => ?_)
theorem drachmref04_Spec_Worth.mono : ∀ a0 a1 a2 a3 a4 a5 a6 a7 a8 a9 a10 k, LeO (drachmref04_Spec_Worth.f k a0 a1 a2 a3 a4 a5 a6 a7 a8 a9 a10) (drachmref04_Spec_Worth.f (k + 1) a0 a1 a2 a3 a4 a5 a6 a7 a8 a9 a10) := by
 intro a0 a1 a2 a3 a4 a5 a6 a7 a8 a9 a10 k
 have ih0 := drachmref04_Spec_Worth.mono_l k
 unfold drachmref04_Spec_Worth.f
 repeat' first
   | (with_reducible exact ih0 _ _ _ _ _ _ _ _ _ _ _ _ _ _ _)
   | (with_reducible exact drachmref02_Make.mono _ _ _ _)
   | (with_reducible exact LeO.refl _)
   | (with_reducible exact LeO.none _)
   | (with_reducible refine LeO.ite ?_ ?_)
   | (with_reducible refine LeO.bind ?_ (fun _ => ?_))
   | exact ih0 _ _ _ _ _ _ _ _ _ _ _ _ _ _ _
   | exact drachmref02_Make.mono _ _ _ _
   | exact LeO.none _
   | refine LeO.ite ?_ ?_
   | refine LeO.bind ?_ (fun _ => ?_)
set_option maxHeartbeats 8000000 in
set_option maxRecDepth 100000 in
theorem drachmref04_Spec_Worth.calls (k : Nat) (a0_0 : Int) (a0_1 : Int) (a0_2 : Int) (a0_3 : Int) (a0_4 : Int) (a0_5 : Int) (a0_6 : Int) (a0_7 : Int) (a0_8 : Int) (a0_9 : Int) (a0_10 : Int) (r1 : Int) (r2 : Int) (r3 : Int) (r4 : Int) (r5 : Int) (r6 : Int) (r7 : Int) (r8 : Int) (r9 : Int) (r10 : Int) (r11 : Int) (w : World) (h : drachmref04_Spec_Worth.f k a0_0 a0_1 a0_2 a0_3 a0_4 a0_5 a0_6 a0_7 a0_8 a0_9 a0_10 = some (r1, r2, r3, r4, r5, r6, r7, r8, r9, r10, r11)) :
  Calls Tryd.prog 10 #[.agg #[.int .i64 a0_0, .int .i64 a0_1, .int .i64 a0_2, .int .i64 a0_3, .int .i64 a0_4, .int .i64 a0_5, .int .i64 a0_6, .int .i64 a0_7, .int .i64 a0_8, .int .i64 a0_9, .int .i64 a0_10]] w fun e w' => e = .returned (.agg #[.int .i64 r1, .int .i64 r2, .int .i64 r3, .int .i64 r4, .int .i64 r5, .int .i64 r6, .int .i64 r7, .int .i64 r8, .int .i64 r9, .int .i64 r10, .int .i64 r11]) ∧ Below w.heap.size w w' := by
 have hu25 := Tryd.underlying25
 have hu31 := Tryd.underlying31
 have hu54 := Tryd.underlying54
 have hu29 := Tryd.underlying29
 have hsd : ∀ (W : World) (n_ : Nat) (a_ : Addr) (v_ : Value), (W.drewN n_).setCell a_ v_ = (W.setCell a_ v_).drewN n_ := fun _ _ _ _ => rfl
 have HB := Aside0.mk (Below.refl w.heap.size w)
 have H : ((drachmref02_Make.f k a0_0 a0_1 a0_2).bind fun bt103 => (if bt103.2.2.2 = 0 then (drachmref04_Spec_Worth.j0 k a0_0 a0_1 a0_2 a0_3 a0_4 a0_5 a0_6 a0_7 a0_8 a0_9 a0_10 bt103.1 bt103.2.1 bt103.2.2.1 bt103.2.2.2) else (drachmref04_Spec_Worth.j0 k a0_0 a0_1 a0_2 a0_3 a0_4 a0_5 a0_6 a0_7 a0_8 a0_9 a0_10 1 1 0 bt103.2.2.2))) = some (r1, r2, r3, r4, r5, r6, r7, r8, r9, r10, r11) := h
 clear h
 replace H := Option.bind_eq_some_iff.mp H
 obtain ⟨⟨t103, t104, t105, t106⟩, A20, H⟩ := H
 replace H : (if t106 = 0 then (drachmref04_Spec_Worth.j0 k a0_0 a0_1 a0_2 a0_3 a0_4 a0_5 a0_6 a0_7 a0_8 a0_9 a0_10 t103 t104 t105 t106) else (drachmref04_Spec_Worth.j0 k a0_0 a0_1 a0_2 a0_3 a0_4 a0_5 a0_6 a0_7 a0_8 a0_9 a0_10 1 1 0 t106)) = some (r1, r2, r3, r4, r5, r6, r7, r8, r9, r10, r11) := H
 have A2 := Aside0.mk A20
 clear A20
 have HC3 := Aside0.mk H
 clear H
 go_enter Tryd.func10, Tryd.ntmps10
 go_upto_if 16 with (first | ((with_reducible refine gate_dst (N := 1) rfl ?_); refine box_event ?hg (N := 1) ?hd (cs := #[.int .i64 a0_0, .int .i64 a0_1, .int .i64 a0_2, .int .i64 a0_3, .int .i64 a0_4, .int .i64 a0_5, .int .i64 a0_6, .int .i64 a0_7, .int .i64 a0_8, .int .i64 a0_9, .int .i64 a0_10]) (t := 25) ?hr ?_; (case hd => rfl); (case hg => rfl); (case hr => first | (go_simp; done) | (go_simp; rfl)); intro gb101 hg w4 hbox hb; have n0_ := sb HB hb; have n1_ := Aside0.mk (hbox); have n2_ := Aside0.mk ((by rw [hg]; exact (below_size (bl HB.out)) : w.heap.size ≤ gb101)); have n3_ := Aside0.mk ((by rw [hg]; exact (below_size (bl HB.out)) : w.heap.size ≤ gb101)); clear HB; have HB := n0_; have BK101 := n1_; have GW101 := n2_; have GE101 := n3_; clear n0_ n1_ n2_ n3_; clear hb hbox hg) | ((with_reducible refine gate_dst (N := 2) rfl ?_); refine box_event ?hg (N := 2) ?hd (cs := #[.int .i64 0, .int .i64 0, .int .i64 0, .int .i64 0, .int .i64 0, .int .i64 0, .int .i64 0, .int .i64 0, .int .i64 0, .int .i64 0, .int .i64 0]) (t := 31) ?hr ?_; (case hd => rfl); (case hg => rfl); (case hr => first | (go_simp; done) | (go_simp; rfl)); intro gb102 hg w5 hbox hb; have n0_ := kb BK101 hb; have n1_ := sb HB hb; have n2_ := Aside0.mk (hbox); have n3_ := Aside0.mk ((by rw [hg]; exact (below_size (bl HB.out)) : w.heap.size ≤ gb102)); have n4_ := Aside0.mk ((by rw [hg]; exact (below_size (bl HB.out)) : w.heap.size ≤ gb102)); have n5_ := Aside0.mk ((by rw [hg]; exact Nat.ne_of_lt (blk_lt (kp BK101.out)) : gb101 ≠ gb102)); have n6_ := Aside0.mk ((by rw [hg]; exact Nat.ne_of_gt (blk_lt (kp BK101.out)) : gb102 ≠ gb101)); clear BK101; clear HB; have BK101 := n0_; have HB := n1_; have BK102 := n2_; have GW102 := n3_; have GE102 := n4_; have NB101_102 := n5_; have NB102_101 := n6_; clear n0_ n1_ n2_ n3_ n4_ n5_ n6_; clear hb hbox hg; have hnb6 := NB101_102.out; have hnc6 := NB102_101.out; obtain ⟨hcz7_0, hcz7_1, hcz7_2, hcz7_3, hcz7_4, hcz7_5, hcz7_6, hcz7_7, hcz7_8, hcz7_9, hcz7_10⟩ := hc11 BK101.out; obtain ⟨hfz7_0, hfz7_1, hfz7_2, hfz7_3, hfz7_4, hfz7_5, hfz7_6, hfz7_7, hfz7_8, hfz7_9, hfz7_10⟩ := hf11 BK101.out) | (go_at_call 20; (with_reducible refine (drachmref02_Make.calls k a0_0 a0_1 a0_2 t103 t104 t105 t106 _ A2.out).mono ?_); rintro e w8 ⟨rfl, hb⟩; replace BK101 := kb BK101 hb; replace BK102 := kb BK102 hb; replace HB := sb HB hb; (try clear hb); (try clear hb2); (try clear hk); (try clear hi)) | ((with_reducible refine gate_dst (N := 3) rfl ?_); refine box_event ?hg (N := 3) ?hd (cs := #[.int .i64 0, .int .i64 0, .int .i64 0, .int .i64 0]) (t := 54) ?hr ?_; (case hd => rfl); (case hg => rfl); (case hr => first | (go_simp; done) | (go_simp; rfl)); intro gb107 hg w9 hbox hb; have n0_ := kb BK101 hb; have n1_ := kb BK102 hb; have n2_ := sb HB hb; have n3_ := Aside0.mk (hbox); have n4_ := Aside0.mk ((by rw [hg]; exact (below_size (bl HB.out)) : w.heap.size ≤ gb107)); have n5_ := Aside0.mk ((by rw [hg]; exact (below_size (bl HB.out)) : w.heap.size ≤ gb107)); have n6_ := Aside0.mk ((by rw [hg]; exact Nat.ne_of_lt (blk_lt (kp BK101.out)) : gb101 ≠ gb107)); have n7_ := Aside0.mk ((by rw [hg]; exact Nat.ne_of_gt (blk_lt (kp BK101.out)) : gb107 ≠ gb101)); have n8_ := Aside0.mk ((by rw [hg]; exact Nat.ne_of_lt (blk_lt (kp BK102.out)) : gb102 ≠ gb107)); have n9_ := Aside0.mk ((by rw [hg]; exact Nat.ne_of_gt (blk_lt (kp BK102.out)) : gb107 ≠ gb102)); clear BK101; clear BK102; clear HB; have BK101 := n0_; have BK102 := n1_; have HB := n2_; have BK107 := n3_; have GW107 := n4_; have GE107 := n5_; have NB101_107 := n6_; have NB107_101 := n7_; have NB102_107 := n8_; have NB107_102 := n9_; clear n0_ n1_ n2_ n3_ n4_ n5_ n6_ n7_ n8_ n9_; clear hb hbox hg; have hnb10 := NB107_101.out; have hnc10 := NB101_107.out; have hnb11 := NB107_102.out; have hnc11 := NB102_107.out; obtain ⟨hcz12_0, hcz12_1, hcz12_2, hcz12_3⟩ := hc4 BK107.out; obtain ⟨hfz12_0, hfz12_1, hfz12_2, hfz12_3⟩ := hf4 BK107.out))
 (try simp only [Act.put, List.setIfInBounds_toArray, List.set_cons_zero, List.set_cons_succ])
 go_cut [] (fun wc => ∃ (kq : Nat) (x108000_2 : Int) (x108001_2 : Int) (x108002_2 : Int), Aside0 (drachmref04_Spec_Worth.j0 kq a0_0 a0_1 a0_2 a0_3 a0_4 a0_5 a0_6 a0_7 a0_8 a0_9 a0_10 x108000_2 x108001_2 x108002_2 t106 = some (r1, r2, r3, r4, r5, r6, r7, r8, r9, r10, r11)) ∧ Aside0 (kq ≤ k) ∧ Aside0 (wc.heap[gb101]? = some (.cells #[.int .i64 a0_0, .int .i64 a0_1, .int .i64 a0_2, .int .i64 a0_3, .int .i64 a0_4, .int .i64 a0_5, .int .i64 a0_6, .int .i64 a0_7, .int .i64 a0_8, .int .i64 a0_9, .int .i64 a0_10] 25 (0, 0))) ∧ Aside0 (wc.heap[gb102]? = some (.cells #[.int .i64 0, .int .i64 0, .int .i64 0, .int .i64 0, .int .i64 0, .int .i64 0, .int .i64 0, .int .i64 0, .int .i64 0, .int .i64 0, .int .i64 0] 31 (0, 0))) ∧ Aside0 (wc.heap[gb107]? = some (.cells #[.int .i64 x108000_2, .int .i64 x108001_2, .int .i64 x108002_2, .int .i64 t106] 54 (0, 0))) ∧ Aside0 (Below w.heap.size w wc))
 case first =>
  have H := HC3.out
  clear HC3
  by_cases c13 : t106 = 0
  ·rw [if_pos c13] at H
   have c13b0 : (t106 == 0) = true := beq_iff_eq.mpr c13
   have c13b1 : (t106 != 0) = false := bne_eq_false_iff_eq.mpr c13
   clear c13
   (first | rw [c13b0] | (simp only [i64_w, i32_w]; rw [c13b0]) | skip)
   have H' := Aside0.mk H
   clear H
   go_wp2
   go_meet
   case rel => exact ⟨_, (t103), (t104), (t105), H', ⟨by first | omega | exact Nat.le_refl _⟩, ⟨kp BK101.out⟩, ⟨kp BK102.out⟩, ⟨kp (p4_3 (kp (p4_2 (kp (p4_1 (kp (p4_0 (kp BK107.out))))))))⟩, ⟨bl HB.out⟩⟩
  ·rw [if_neg c13] at H
   have c13b0 : (t106 == 0) = false := beq_eq_false_iff_ne.mpr c13
   have c13b1 : (t106 != 0) = true := bne_iff_ne.mpr c13
   (first | rw [c13b0] | (simp only [i64_w, i32_w]; rw [c13b0]) | skip)
   have H' := Aside0.mk H
   clear H
   have hnb14 := NB107_101.out
   have hnc14 := NB101_107.out
   have hnb15 := NB107_102.out
   have hnc15 := NB102_107.out
   obtain ⟨hcz16_0, hcz16_1, hcz16_2, hcz16_3⟩ := hc4 BK107.out
   obtain ⟨hfz16_0, hfz16_1, hfz16_2, hfz16_3⟩ := hf4 BK107.out
   go_wp2
   go_meet
   case rel => exact ⟨_, (1), (1), (0), H', ⟨by first | omega | exact Nat.le_refl _⟩, ⟨kp BK101.out⟩, ⟨kp BK102.out⟩, ⟨kp (p4_2 (kp (p4_1 (kp (p4_0 (kp (p4_3 (kp (p4_2 (kp (p4_1 (kp (p4_0 (kp BK107.out))))))))))))))⟩, ⟨bl HB.out⟩⟩
 case rest =>
  clear HC3
  try clear c1
  try clear c2
  try clear p2
  try clear c6
  try clear c10
  try clear c11
  try clear c13
  try clear c13b0
  try clear c13b1
  try clear c14
  try clear c15
  try clear hcz12_0 hcz12_1 hcz12_2 hcz12_3
  try clear hcz16_0 hcz16_1 hcz16_2 hcz16_3
  try clear hcz7_0 hcz7_1 hcz7_10 hcz7_2 hcz7_3 hcz7_4 hcz7_5 hcz7_6 hcz7_7 hcz7_8 hcz7_9
  try clear hfz12_0 hfz12_1 hfz12_2 hfz12_3
  try clear hfz16_0 hfz16_1 hfz16_2 hfz16_3
  try clear hfz7_0 hfz7_1 hfz7_10 hfz7_2 hfz7_3 hfz7_4 hfz7_5 hfz7_6 hfz7_7 hfz7_8 hfz7_9
  obtain ⟨kq, x108000_2, x108001_2, x108002_2, HA, HJ2, BK101, BK102, BK107, HB⟩ := hcut
  cases kq with
  | zero => exact absurd HA.out (by simp [drachmref04_Spec_Worth.j0])
  | succ kj2 =>
   have H := HA.out
   clear HA
   simp only [drachmref04_Spec_Worth.j0] at H
   by_cases c17 : (Int.tmod (wrap64 ((Int.tmod a0_10 8) + 8)) 8) < 4
   ·rw [if_pos c17] at H
    have c17b0 : decide ((Int.tmod (wrap64 ((Int.tmod a0_10 8) + 8)) 8) < 4) = true := decide_eq_true c17
    clear c17
    simp only [Option.some.injEq, Prod.mk.injEq] at H
    obtain ⟨rfl, rfl, rfl, rfl, rfl, rfl, rfl, rfl, rfl, rfl, rfl⟩ := H
    have hnb18 := NB107_101.out
    have hnc18 := NB101_107.out
    have hnb19 := NB107_102.out
    have hnc19 := NB102_107.out
    obtain ⟨hcz20_0, hcz20_1, hcz20_2, hcz20_3⟩ := hc4 BK107.out
    obtain ⟨hfz20_0, hfz20_1, hfz20_2, hfz20_3⟩ := hf4 BK107.out
    go_wp2_with (first | ((with_reducible refine gate_dst (N := 4) rfl ?_); refine box_event ?hg (N := 4) ?hd (cs := #[.int .i64 0, .int .i64 0, .int .i64 0, .int .i64 0, .int .i64 0, .int .i64 0, .int .i64 0, .int .i64 0, .int .i64 0, .int .i64 0, .int .i64 0]) (t := 31) ?hr ?_; (case hd => rfl); (case hg => rfl); (case hr => first | (go_simp; done) | (go_simp; rfl)); intro gb108 hg w21 hbox hb; have n0_ := kb BK101 hb; have n1_ := kb BK102 hb; have n2_ := kb BK107 hb; have n3_ := sb HB hb; have n4_ := Aside0.mk (hbox); have n5_ := Aside0.mk ((by rw [hg]; exact (below_size (bl HB.out)) : w.heap.size ≤ gb108)); have n6_ := Aside0.mk ((by rw [hg]; exact (below_size (bl HB.out)) : w.heap.size ≤ gb108)); have n7_ := Aside0.mk ((by rw [hg]; exact Nat.ne_of_lt (blk_lt (kp BK101.out)) : gb101 ≠ gb108)); have n8_ := Aside0.mk ((by rw [hg]; exact Nat.ne_of_gt (blk_lt (kp BK101.out)) : gb108 ≠ gb101)); have n9_ := Aside0.mk ((by rw [hg]; exact Nat.ne_of_lt (blk_lt (kp BK102.out)) : gb102 ≠ gb108)); have n10_ := Aside0.mk ((by rw [hg]; exact Nat.ne_of_gt (blk_lt (kp BK102.out)) : gb108 ≠ gb102)); have n11_ := Aside0.mk ((by rw [hg]; exact Nat.ne_of_lt (blk_lt (kp BK107.out)) : gb107 ≠ gb108)); have n12_ := Aside0.mk ((by rw [hg]; exact Nat.ne_of_gt (blk_lt (kp BK107.out)) : gb108 ≠ gb107)); clear BK101; clear BK102; clear BK107; clear HB; have BK101 := n0_; have BK102 := n1_; have BK107 := n2_; have HB := n3_; have BK108 := n4_; have GW108 := n5_; have GE108 := n6_; have NB101_108 := n7_; have NB108_101 := n8_; have NB102_108 := n9_; have NB108_102 := n10_; have NB107_108 := n11_; have NB108_107 := n12_; clear n0_ n1_ n2_ n3_ n4_ n5_ n6_ n7_ n8_ n9_ n10_ n11_ n12_; clear hb hbox hg; have hnb22 := NB108_101.out; have hnc22 := NB101_108.out; have hnb23 := NB108_102.out; have hnc23 := NB102_108.out; have hnb24 := NB108_107.out; have hnc24 := NB107_108.out; obtain ⟨hcz25_0, hcz25_1, hcz25_2, hcz25_3, hcz25_4, hcz25_5, hcz25_6, hcz25_7, hcz25_8, hcz25_9, hcz25_10⟩ := hc11 BK108.out; obtain ⟨hfz25_0, hfz25_1, hfz25_2, hfz25_3, hfz25_4, hfz25_5, hfz25_6, hfz25_7, hfz25_8, hfz25_9, hfz25_10⟩ := hf11 BK108.out))
    refine wp_loop_rounds 41 ?_
    rw [rounds_succ]
    have hnb26 := NB101_102.out
    have hnc26 := NB102_101.out
    obtain ⟨hcz27_0, hcz27_1, hcz27_2, hcz27_3, hcz27_4, hcz27_5, hcz27_6, hcz27_7, hcz27_8, hcz27_9, hcz27_10⟩ := hc11 BK101.out
    obtain ⟨hfz27_0, hfz27_1, hfz27_2, hfz27_3, hfz27_4, hfz27_5, hfz27_6, hfz27_7, hfz27_8, hfz27_9, hfz27_10⟩ := hf11 BK101.out
    obtain ⟨hcz28_0, hcz28_1, hcz28_2, hcz28_3, hcz28_4, hcz28_5, hcz28_6, hcz28_7, hcz28_8, hcz28_9, hcz28_10⟩ := hc11 BK108.out
    obtain ⟨hfz28_0, hfz28_1, hfz28_2, hfz28_3, hfz28_4, hfz28_5, hfz28_6, hfz28_7, hfz28_8, hfz28_9, hfz28_10⟩ := hf11 BK108.out
    go_wp2
    rw [rounds_succ]
    have n0_ : Aside0 (((((((((((((w21.setCell ⟨gb108, 0, none⟩ (.int .i64 x108000_2)).setCell ⟨gb108, 1, none⟩ (.int .i64 x108001_2)).setCell ⟨gb108, 2, none⟩ (.int .i64 x108002_2)).setCell ⟨gb108, 3, none⟩ (.int .i64 0)).setCell ⟨gb108, 4, none⟩ (.int .i64 0)).setCell ⟨gb108, 5, none⟩ (.int .i64 0)).setCell ⟨gb108, 6, none⟩ (.int .i64 0)).setCell ⟨gb108, 7, none⟩ (.int .i64 0)).setCell ⟨gb108, 8, none⟩ (.int .i64 0)).setCell ⟨gb108, 9, none⟩ (.int .i64 0)).setCell ⟨gb108, 10, none⟩ (.int .i64 0)).setCell ⟨gb108, 3, none⟩ (.int .i64 (Int.tmod a0_3 10))).heap[gb101]? = some (.cells #[.int .i64 a0_0, .int .i64 a0_1, .int .i64 a0_2, .int .i64 a0_3, .int .i64 a0_4, .int .i64 a0_5, .int .i64 a0_6, .int .i64 a0_7, .int .i64 a0_8, .int .i64 a0_9, .int .i64 a0_10] 25 (0, 0))) := ⟨kp BK101.out⟩
    have n1_ : Aside0 (((((((((((((w21.setCell ⟨gb108, 0, none⟩ (.int .i64 x108000_2)).setCell ⟨gb108, 1, none⟩ (.int .i64 x108001_2)).setCell ⟨gb108, 2, none⟩ (.int .i64 x108002_2)).setCell ⟨gb108, 3, none⟩ (.int .i64 0)).setCell ⟨gb108, 4, none⟩ (.int .i64 0)).setCell ⟨gb108, 5, none⟩ (.int .i64 0)).setCell ⟨gb108, 6, none⟩ (.int .i64 0)).setCell ⟨gb108, 7, none⟩ (.int .i64 0)).setCell ⟨gb108, 8, none⟩ (.int .i64 0)).setCell ⟨gb108, 9, none⟩ (.int .i64 0)).setCell ⟨gb108, 10, none⟩ (.int .i64 0)).setCell ⟨gb108, 3, none⟩ (.int .i64 (Int.tmod a0_3 10))).heap[gb102]? = some (.cells #[.int .i64 0, .int .i64 0, .int .i64 0, .int .i64 0, .int .i64 0, .int .i64 0, .int .i64 0, .int .i64 0, .int .i64 0, .int .i64 0, .int .i64 0] 31 (0, 0))) := ⟨kp BK102.out⟩
    have n2_ : Aside0 (((((((((((((w21.setCell ⟨gb108, 0, none⟩ (.int .i64 x108000_2)).setCell ⟨gb108, 1, none⟩ (.int .i64 x108001_2)).setCell ⟨gb108, 2, none⟩ (.int .i64 x108002_2)).setCell ⟨gb108, 3, none⟩ (.int .i64 0)).setCell ⟨gb108, 4, none⟩ (.int .i64 0)).setCell ⟨gb108, 5, none⟩ (.int .i64 0)).setCell ⟨gb108, 6, none⟩ (.int .i64 0)).setCell ⟨gb108, 7, none⟩ (.int .i64 0)).setCell ⟨gb108, 8, none⟩ (.int .i64 0)).setCell ⟨gb108, 9, none⟩ (.int .i64 0)).setCell ⟨gb108, 10, none⟩ (.int .i64 0)).setCell ⟨gb108, 3, none⟩ (.int .i64 (Int.tmod a0_3 10))).heap[gb107]? = some (.cells #[.int .i64 x108000_2, .int .i64 x108001_2, .int .i64 x108002_2, .int .i64 t106] 54 (0, 0))) := ⟨kp BK107.out⟩
    have n3_ : Aside0 (((((((((((((w21.setCell ⟨gb108, 0, none⟩ (.int .i64 x108000_2)).setCell ⟨gb108, 1, none⟩ (.int .i64 x108001_2)).setCell ⟨gb108, 2, none⟩ (.int .i64 x108002_2)).setCell ⟨gb108, 3, none⟩ (.int .i64 0)).setCell ⟨gb108, 4, none⟩ (.int .i64 0)).setCell ⟨gb108, 5, none⟩ (.int .i64 0)).setCell ⟨gb108, 6, none⟩ (.int .i64 0)).setCell ⟨gb108, 7, none⟩ (.int .i64 0)).setCell ⟨gb108, 8, none⟩ (.int .i64 0)).setCell ⟨gb108, 9, none⟩ (.int .i64 0)).setCell ⟨gb108, 10, none⟩ (.int .i64 0)).setCell ⟨gb108, 3, none⟩ (.int .i64 (Int.tmod a0_3 10))).heap[gb108]? = some (.cells #[.int .i64 x108000_2, .int .i64 x108001_2, .int .i64 x108002_2, .int .i64 (Int.tmod a0_3 10), .int .i64 0, .int .i64 0, .int .i64 0, .int .i64 0, .int .i64 0, .int .i64 0, .int .i64 0] 31 (0, 0))) := ⟨kp (p11_3 (kp (p11_10 (kp (p11_9 (kp (p11_8 (kp (p11_7 (kp (p11_6 (kp (p11_5 (kp (p11_4 (kp (p11_3 (kp (p11_2 (kp (p11_1 (kp (p11_0 (kp BK108.out))))))))))))))))))))))))⟩
    have n4_ : Aside0 (Below w.heap.size w ((((((((((((w21.setCell ⟨gb108, 0, none⟩ (.int .i64 x108000_2)).setCell ⟨gb108, 1, none⟩ (.int .i64 x108001_2)).setCell ⟨gb108, 2, none⟩ (.int .i64 x108002_2)).setCell ⟨gb108, 3, none⟩ (.int .i64 0)).setCell ⟨gb108, 4, none⟩ (.int .i64 0)).setCell ⟨gb108, 5, none⟩ (.int .i64 0)).setCell ⟨gb108, 6, none⟩ (.int .i64 0)).setCell ⟨gb108, 7, none⟩ (.int .i64 0)).setCell ⟨gb108, 8, none⟩ (.int .i64 0)).setCell ⟨gb108, 9, none⟩ (.int .i64 0)).setCell ⟨gb108, 10, none⟩ (.int .i64 0)).setCell ⟨gb108, 3, none⟩ (.int .i64 (Int.tmod a0_3 10)))) := ⟨bl HB.out⟩
    (try clear BK101)
    (try clear BK102)
    (try clear BK107)
    (try clear BK108)
    (try clear HB)
    generalize ((((((((((((w21.setCell ⟨gb108, 0, none⟩ (.int .i64 x108000_2)).setCell ⟨gb108, 1, none⟩ (.int .i64 x108001_2)).setCell ⟨gb108, 2, none⟩ (.int .i64 x108002_2)).setCell ⟨gb108, 3, none⟩ (.int .i64 0)).setCell ⟨gb108, 4, none⟩ (.int .i64 0)).setCell ⟨gb108, 5, none⟩ (.int .i64 0)).setCell ⟨gb108, 6, none⟩ (.int .i64 0)).setCell ⟨gb108, 7, none⟩ (.int .i64 0)).setCell ⟨gb108, 8, none⟩ (.int .i64 0)).setCell ⟨gb108, 9, none⟩ (.int .i64 0)).setCell ⟨gb108, 10, none⟩ (.int .i64 0)).setCell ⟨gb108, 3, none⟩ (.int .i64 (Int.tmod a0_3 10))) = w29 at n0_ n1_ n2_ n3_ n4_ ⊢
    have BK101 := n0_
    have BK102 := n1_
    have BK107 := n2_
    have BK108 := n3_
    have HB := n4_
    clear n0_ n1_ n2_ n3_ n4_
    (try (rw [drewN_self w29]; generalize hq_ : World.drewN w29 _ = w29; replace BK101 := Aside0.mk (kq hq_ BK101.out); replace BK102 := Aside0.mk (kq hq_ BK102.out); replace BK107 := Aside0.mk (kq hq_ BK107.out); replace BK108 := Aside0.mk (kq hq_ BK108.out); replace HB := Aside0.mk (bq hq_ HB.out); clear hq_))
    obtain ⟨hcz30_0, hcz30_1, hcz30_2, hcz30_3, hcz30_4, hcz30_5, hcz30_6, hcz30_7, hcz30_8, hcz30_9, hcz30_10⟩ := hc11 BK101.out
    obtain ⟨hfz30_0, hfz30_1, hfz30_2, hfz30_3, hfz30_4, hfz30_5, hfz30_6, hfz30_7, hfz30_8, hfz30_9, hfz30_10⟩ := hf11 BK101.out
    obtain ⟨hcz31_0, hcz31_1, hcz31_2, hcz31_3, hcz31_4, hcz31_5, hcz31_6, hcz31_7, hcz31_8, hcz31_9, hcz31_10⟩ := hc11 BK108.out
    obtain ⟨hfz31_0, hfz31_1, hfz31_2, hfz31_3, hfz31_4, hfz31_5, hfz31_6, hfz31_7, hfz31_8, hfz31_9, hfz31_10⟩ := hf11 BK108.out
    go_wp2
    rw [rounds_succ]
    have n0_ : Aside0 ((w29.setCell ⟨gb108, 4, none⟩ (.int .i64 (Int.tmod a0_4 10))).heap[gb101]? = some (.cells #[.int .i64 a0_0, .int .i64 a0_1, .int .i64 a0_2, .int .i64 a0_3, .int .i64 a0_4, .int .i64 a0_5, .int .i64 a0_6, .int .i64 a0_7, .int .i64 a0_8, .int .i64 a0_9, .int .i64 a0_10] 25 (0, 0))) := ⟨kp BK101.out⟩
    have n1_ : Aside0 ((w29.setCell ⟨gb108, 4, none⟩ (.int .i64 (Int.tmod a0_4 10))).heap[gb102]? = some (.cells #[.int .i64 0, .int .i64 0, .int .i64 0, .int .i64 0, .int .i64 0, .int .i64 0, .int .i64 0, .int .i64 0, .int .i64 0, .int .i64 0, .int .i64 0] 31 (0, 0))) := ⟨kp BK102.out⟩
    have n2_ : Aside0 ((w29.setCell ⟨gb108, 4, none⟩ (.int .i64 (Int.tmod a0_4 10))).heap[gb107]? = some (.cells #[.int .i64 x108000_2, .int .i64 x108001_2, .int .i64 x108002_2, .int .i64 t106] 54 (0, 0))) := ⟨kp BK107.out⟩
    have n3_ : Aside0 ((w29.setCell ⟨gb108, 4, none⟩ (.int .i64 (Int.tmod a0_4 10))).heap[gb108]? = some (.cells #[.int .i64 x108000_2, .int .i64 x108001_2, .int .i64 x108002_2, .int .i64 (Int.tmod a0_3 10), .int .i64 (Int.tmod a0_4 10), .int .i64 0, .int .i64 0, .int .i64 0, .int .i64 0, .int .i64 0, .int .i64 0] 31 (0, 0))) := ⟨kp (p11_4 (kp BK108.out))⟩
    have n4_ : Aside0 (Below w.heap.size w (w29.setCell ⟨gb108, 4, none⟩ (.int .i64 (Int.tmod a0_4 10)))) := ⟨bl HB.out⟩
    (try clear BK101)
    (try clear BK102)
    (try clear BK107)
    (try clear BK108)
    (try clear HB)
    generalize (w29.setCell ⟨gb108, 4, none⟩ (.int .i64 (Int.tmod a0_4 10))) = w32 at n0_ n1_ n2_ n3_ n4_ ⊢
    have BK101 := n0_
    have BK102 := n1_
    have BK107 := n2_
    have BK108 := n3_
    have HB := n4_
    clear n0_ n1_ n2_ n3_ n4_
    (try (rw [drewN_self w32]; generalize hq_ : World.drewN w32 _ = w32; replace BK101 := Aside0.mk (kq hq_ BK101.out); replace BK102 := Aside0.mk (kq hq_ BK102.out); replace BK107 := Aside0.mk (kq hq_ BK107.out); replace BK108 := Aside0.mk (kq hq_ BK108.out); replace HB := Aside0.mk (bq hq_ HB.out); clear hq_))
    obtain ⟨hcz33_0, hcz33_1, hcz33_2, hcz33_3, hcz33_4, hcz33_5, hcz33_6, hcz33_7, hcz33_8, hcz33_9, hcz33_10⟩ := hc11 BK101.out
    obtain ⟨hfz33_0, hfz33_1, hfz33_2, hfz33_3, hfz33_4, hfz33_5, hfz33_6, hfz33_7, hfz33_8, hfz33_9, hfz33_10⟩ := hf11 BK101.out
    obtain ⟨hcz34_0, hcz34_1, hcz34_2, hcz34_3, hcz34_4, hcz34_5, hcz34_6, hcz34_7, hcz34_8, hcz34_9, hcz34_10⟩ := hc11 BK108.out
    obtain ⟨hfz34_0, hfz34_1, hfz34_2, hfz34_3, hfz34_4, hfz34_5, hfz34_6, hfz34_7, hfz34_8, hfz34_9, hfz34_10⟩ := hf11 BK108.out
    go_wp2
    rw [rounds_succ]
    have n0_ : Aside0 ((w32.setCell ⟨gb108, 5, none⟩ (.int .i64 (Int.tmod a0_5 10))).heap[gb101]? = some (.cells #[.int .i64 a0_0, .int .i64 a0_1, .int .i64 a0_2, .int .i64 a0_3, .int .i64 a0_4, .int .i64 a0_5, .int .i64 a0_6, .int .i64 a0_7, .int .i64 a0_8, .int .i64 a0_9, .int .i64 a0_10] 25 (0, 0))) := ⟨kp BK101.out⟩
    have n1_ : Aside0 ((w32.setCell ⟨gb108, 5, none⟩ (.int .i64 (Int.tmod a0_5 10))).heap[gb102]? = some (.cells #[.int .i64 0, .int .i64 0, .int .i64 0, .int .i64 0, .int .i64 0, .int .i64 0, .int .i64 0, .int .i64 0, .int .i64 0, .int .i64 0, .int .i64 0] 31 (0, 0))) := ⟨kp BK102.out⟩
    have n2_ : Aside0 ((w32.setCell ⟨gb108, 5, none⟩ (.int .i64 (Int.tmod a0_5 10))).heap[gb107]? = some (.cells #[.int .i64 x108000_2, .int .i64 x108001_2, .int .i64 x108002_2, .int .i64 t106] 54 (0, 0))) := ⟨kp BK107.out⟩
    have n3_ : Aside0 ((w32.setCell ⟨gb108, 5, none⟩ (.int .i64 (Int.tmod a0_5 10))).heap[gb108]? = some (.cells #[.int .i64 x108000_2, .int .i64 x108001_2, .int .i64 x108002_2, .int .i64 (Int.tmod a0_3 10), .int .i64 (Int.tmod a0_4 10), .int .i64 (Int.tmod a0_5 10), .int .i64 0, .int .i64 0, .int .i64 0, .int .i64 0, .int .i64 0] 31 (0, 0))) := ⟨kp (p11_5 (kp BK108.out))⟩
    have n4_ : Aside0 (Below w.heap.size w (w32.setCell ⟨gb108, 5, none⟩ (.int .i64 (Int.tmod a0_5 10)))) := ⟨bl HB.out⟩
    (try clear BK101)
    (try clear BK102)
    (try clear BK107)
    (try clear BK108)
    (try clear HB)
    generalize (w32.setCell ⟨gb108, 5, none⟩ (.int .i64 (Int.tmod a0_5 10))) = w35 at n0_ n1_ n2_ n3_ n4_ ⊢
    have BK101 := n0_
    have BK102 := n1_
    have BK107 := n2_
    have BK108 := n3_
    have HB := n4_
    clear n0_ n1_ n2_ n3_ n4_
    (try (rw [drewN_self w35]; generalize hq_ : World.drewN w35 _ = w35; replace BK101 := Aside0.mk (kq hq_ BK101.out); replace BK102 := Aside0.mk (kq hq_ BK102.out); replace BK107 := Aside0.mk (kq hq_ BK107.out); replace BK108 := Aside0.mk (kq hq_ BK108.out); replace HB := Aside0.mk (bq hq_ HB.out); clear hq_))
    obtain ⟨hcz36_0, hcz36_1, hcz36_2, hcz36_3, hcz36_4, hcz36_5, hcz36_6, hcz36_7, hcz36_8, hcz36_9, hcz36_10⟩ := hc11 BK101.out
    obtain ⟨hfz36_0, hfz36_1, hfz36_2, hfz36_3, hfz36_4, hfz36_5, hfz36_6, hfz36_7, hfz36_8, hfz36_9, hfz36_10⟩ := hf11 BK101.out
    obtain ⟨hcz37_0, hcz37_1, hcz37_2, hcz37_3, hcz37_4, hcz37_5, hcz37_6, hcz37_7, hcz37_8, hcz37_9, hcz37_10⟩ := hc11 BK108.out
    obtain ⟨hfz37_0, hfz37_1, hfz37_2, hfz37_3, hfz37_4, hfz37_5, hfz37_6, hfz37_7, hfz37_8, hfz37_9, hfz37_10⟩ := hf11 BK108.out
    go_wp2
    rw [rounds_succ]
    have n0_ : Aside0 ((w35.setCell ⟨gb108, 6, none⟩ (.int .i64 (Int.tmod a0_6 10))).heap[gb101]? = some (.cells #[.int .i64 a0_0, .int .i64 a0_1, .int .i64 a0_2, .int .i64 a0_3, .int .i64 a0_4, .int .i64 a0_5, .int .i64 a0_6, .int .i64 a0_7, .int .i64 a0_8, .int .i64 a0_9, .int .i64 a0_10] 25 (0, 0))) := ⟨kp BK101.out⟩
    have n1_ : Aside0 ((w35.setCell ⟨gb108, 6, none⟩ (.int .i64 (Int.tmod a0_6 10))).heap[gb102]? = some (.cells #[.int .i64 0, .int .i64 0, .int .i64 0, .int .i64 0, .int .i64 0, .int .i64 0, .int .i64 0, .int .i64 0, .int .i64 0, .int .i64 0, .int .i64 0] 31 (0, 0))) := ⟨kp BK102.out⟩
    have n2_ : Aside0 ((w35.setCell ⟨gb108, 6, none⟩ (.int .i64 (Int.tmod a0_6 10))).heap[gb107]? = some (.cells #[.int .i64 x108000_2, .int .i64 x108001_2, .int .i64 x108002_2, .int .i64 t106] 54 (0, 0))) := ⟨kp BK107.out⟩
    have n3_ : Aside0 ((w35.setCell ⟨gb108, 6, none⟩ (.int .i64 (Int.tmod a0_6 10))).heap[gb108]? = some (.cells #[.int .i64 x108000_2, .int .i64 x108001_2, .int .i64 x108002_2, .int .i64 (Int.tmod a0_3 10), .int .i64 (Int.tmod a0_4 10), .int .i64 (Int.tmod a0_5 10), .int .i64 (Int.tmod a0_6 10), .int .i64 0, .int .i64 0, .int .i64 0, .int .i64 0] 31 (0, 0))) := ⟨kp (p11_6 (kp BK108.out))⟩
    have n4_ : Aside0 (Below w.heap.size w (w35.setCell ⟨gb108, 6, none⟩ (.int .i64 (Int.tmod a0_6 10)))) := ⟨bl HB.out⟩
    (try clear BK101)
    (try clear BK102)
    (try clear BK107)
    (try clear BK108)
    (try clear HB)
    generalize (w35.setCell ⟨gb108, 6, none⟩ (.int .i64 (Int.tmod a0_6 10))) = w38 at n0_ n1_ n2_ n3_ n4_ ⊢
    have BK101 := n0_
    have BK102 := n1_
    have BK107 := n2_
    have BK108 := n3_
    have HB := n4_
    clear n0_ n1_ n2_ n3_ n4_
    (try (rw [drewN_self w38]; generalize hq_ : World.drewN w38 _ = w38; replace BK101 := Aside0.mk (kq hq_ BK101.out); replace BK102 := Aside0.mk (kq hq_ BK102.out); replace BK107 := Aside0.mk (kq hq_ BK107.out); replace BK108 := Aside0.mk (kq hq_ BK108.out); replace HB := Aside0.mk (bq hq_ HB.out); clear hq_))
    obtain ⟨hcz39_0, hcz39_1, hcz39_2, hcz39_3, hcz39_4, hcz39_5, hcz39_6, hcz39_7, hcz39_8, hcz39_9, hcz39_10⟩ := hc11 BK101.out
    obtain ⟨hfz39_0, hfz39_1, hfz39_2, hfz39_3, hfz39_4, hfz39_5, hfz39_6, hfz39_7, hfz39_8, hfz39_9, hfz39_10⟩ := hf11 BK101.out
    obtain ⟨hcz40_0, hcz40_1, hcz40_2, hcz40_3, hcz40_4, hcz40_5, hcz40_6, hcz40_7, hcz40_8, hcz40_9, hcz40_10⟩ := hc11 BK108.out
    obtain ⟨hfz40_0, hfz40_1, hfz40_2, hfz40_3, hfz40_4, hfz40_5, hfz40_6, hfz40_7, hfz40_8, hfz40_9, hfz40_10⟩ := hf11 BK108.out
    go_wp2
    rw [rounds_succ]
    have n0_ : Aside0 ((w38.setCell ⟨gb108, 7, none⟩ (.int .i64 (Int.tmod a0_7 10))).heap[gb101]? = some (.cells #[.int .i64 a0_0, .int .i64 a0_1, .int .i64 a0_2, .int .i64 a0_3, .int .i64 a0_4, .int .i64 a0_5, .int .i64 a0_6, .int .i64 a0_7, .int .i64 a0_8, .int .i64 a0_9, .int .i64 a0_10] 25 (0, 0))) := ⟨kp BK101.out⟩
    have n1_ : Aside0 ((w38.setCell ⟨gb108, 7, none⟩ (.int .i64 (Int.tmod a0_7 10))).heap[gb102]? = some (.cells #[.int .i64 0, .int .i64 0, .int .i64 0, .int .i64 0, .int .i64 0, .int .i64 0, .int .i64 0, .int .i64 0, .int .i64 0, .int .i64 0, .int .i64 0] 31 (0, 0))) := ⟨kp BK102.out⟩
    have n2_ : Aside0 ((w38.setCell ⟨gb108, 7, none⟩ (.int .i64 (Int.tmod a0_7 10))).heap[gb107]? = some (.cells #[.int .i64 x108000_2, .int .i64 x108001_2, .int .i64 x108002_2, .int .i64 t106] 54 (0, 0))) := ⟨kp BK107.out⟩
    have n3_ : Aside0 ((w38.setCell ⟨gb108, 7, none⟩ (.int .i64 (Int.tmod a0_7 10))).heap[gb108]? = some (.cells #[.int .i64 x108000_2, .int .i64 x108001_2, .int .i64 x108002_2, .int .i64 (Int.tmod a0_3 10), .int .i64 (Int.tmod a0_4 10), .int .i64 (Int.tmod a0_5 10), .int .i64 (Int.tmod a0_6 10), .int .i64 (Int.tmod a0_7 10), .int .i64 0, .int .i64 0, .int .i64 0] 31 (0, 0))) := ⟨kp (p11_7 (kp BK108.out))⟩
    have n4_ : Aside0 (Below w.heap.size w (w38.setCell ⟨gb108, 7, none⟩ (.int .i64 (Int.tmod a0_7 10)))) := ⟨bl HB.out⟩
    (try clear BK101)
    (try clear BK102)
    (try clear BK107)
    (try clear BK108)
    (try clear HB)
    generalize (w38.setCell ⟨gb108, 7, none⟩ (.int .i64 (Int.tmod a0_7 10))) = w41 at n0_ n1_ n2_ n3_ n4_ ⊢
    have BK101 := n0_
    have BK102 := n1_
    have BK107 := n2_
    have BK108 := n3_
    have HB := n4_
    clear n0_ n1_ n2_ n3_ n4_
    (try (rw [drewN_self w41]; generalize hq_ : World.drewN w41 _ = w41; replace BK101 := Aside0.mk (kq hq_ BK101.out); replace BK102 := Aside0.mk (kq hq_ BK102.out); replace BK107 := Aside0.mk (kq hq_ BK107.out); replace BK108 := Aside0.mk (kq hq_ BK108.out); replace HB := Aside0.mk (bq hq_ HB.out); clear hq_))
    obtain ⟨hcz42_0, hcz42_1, hcz42_2, hcz42_3, hcz42_4, hcz42_5, hcz42_6, hcz42_7, hcz42_8, hcz42_9, hcz42_10⟩ := hc11 BK101.out
    obtain ⟨hfz42_0, hfz42_1, hfz42_2, hfz42_3, hfz42_4, hfz42_5, hfz42_6, hfz42_7, hfz42_8, hfz42_9, hfz42_10⟩ := hf11 BK101.out
    obtain ⟨hcz43_0, hcz43_1, hcz43_2, hcz43_3, hcz43_4, hcz43_5, hcz43_6, hcz43_7, hcz43_8, hcz43_9, hcz43_10⟩ := hc11 BK108.out
    obtain ⟨hfz43_0, hfz43_1, hfz43_2, hfz43_3, hfz43_4, hfz43_5, hfz43_6, hfz43_7, hfz43_8, hfz43_9, hfz43_10⟩ := hf11 BK108.out
    go_wp2
    rw [rounds_succ]
    have n0_ : Aside0 ((w41.setCell ⟨gb108, 8, none⟩ (.int .i64 (Int.tmod a0_8 10))).heap[gb101]? = some (.cells #[.int .i64 a0_0, .int .i64 a0_1, .int .i64 a0_2, .int .i64 a0_3, .int .i64 a0_4, .int .i64 a0_5, .int .i64 a0_6, .int .i64 a0_7, .int .i64 a0_8, .int .i64 a0_9, .int .i64 a0_10] 25 (0, 0))) := ⟨kp BK101.out⟩
    have n1_ : Aside0 ((w41.setCell ⟨gb108, 8, none⟩ (.int .i64 (Int.tmod a0_8 10))).heap[gb102]? = some (.cells #[.int .i64 0, .int .i64 0, .int .i64 0, .int .i64 0, .int .i64 0, .int .i64 0, .int .i64 0, .int .i64 0, .int .i64 0, .int .i64 0, .int .i64 0] 31 (0, 0))) := ⟨kp BK102.out⟩
    have n2_ : Aside0 ((w41.setCell ⟨gb108, 8, none⟩ (.int .i64 (Int.tmod a0_8 10))).heap[gb107]? = some (.cells #[.int .i64 x108000_2, .int .i64 x108001_2, .int .i64 x108002_2, .int .i64 t106] 54 (0, 0))) := ⟨kp BK107.out⟩
    have n3_ : Aside0 ((w41.setCell ⟨gb108, 8, none⟩ (.int .i64 (Int.tmod a0_8 10))).heap[gb108]? = some (.cells #[.int .i64 x108000_2, .int .i64 x108001_2, .int .i64 x108002_2, .int .i64 (Int.tmod a0_3 10), .int .i64 (Int.tmod a0_4 10), .int .i64 (Int.tmod a0_5 10), .int .i64 (Int.tmod a0_6 10), .int .i64 (Int.tmod a0_7 10), .int .i64 (Int.tmod a0_8 10), .int .i64 0, .int .i64 0] 31 (0, 0))) := ⟨kp (p11_8 (kp BK108.out))⟩
    have n4_ : Aside0 (Below w.heap.size w (w41.setCell ⟨gb108, 8, none⟩ (.int .i64 (Int.tmod a0_8 10)))) := ⟨bl HB.out⟩
    (try clear BK101)
    (try clear BK102)
    (try clear BK107)
    (try clear BK108)
    (try clear HB)
    generalize (w41.setCell ⟨gb108, 8, none⟩ (.int .i64 (Int.tmod a0_8 10))) = w44 at n0_ n1_ n2_ n3_ n4_ ⊢
    have BK101 := n0_
    have BK102 := n1_
    have BK107 := n2_
    have BK108 := n3_
    have HB := n4_
    clear n0_ n1_ n2_ n3_ n4_
    (try (rw [drewN_self w44]; generalize hq_ : World.drewN w44 _ = w44; replace BK101 := Aside0.mk (kq hq_ BK101.out); replace BK102 := Aside0.mk (kq hq_ BK102.out); replace BK107 := Aside0.mk (kq hq_ BK107.out); replace BK108 := Aside0.mk (kq hq_ BK108.out); replace HB := Aside0.mk (bq hq_ HB.out); clear hq_))
    obtain ⟨hcz45_0, hcz45_1, hcz45_2, hcz45_3, hcz45_4, hcz45_5, hcz45_6, hcz45_7, hcz45_8, hcz45_9, hcz45_10⟩ := hc11 BK101.out
    obtain ⟨hfz45_0, hfz45_1, hfz45_2, hfz45_3, hfz45_4, hfz45_5, hfz45_6, hfz45_7, hfz45_8, hfz45_9, hfz45_10⟩ := hf11 BK101.out
    obtain ⟨hcz46_0, hcz46_1, hcz46_2, hcz46_3, hcz46_4, hcz46_5, hcz46_6, hcz46_7, hcz46_8, hcz46_9, hcz46_10⟩ := hc11 BK108.out
    obtain ⟨hfz46_0, hfz46_1, hfz46_2, hfz46_3, hfz46_4, hfz46_5, hfz46_6, hfz46_7, hfz46_8, hfz46_9, hfz46_10⟩ := hf11 BK108.out
    go_wp2
    rw [rounds_succ]
    have n0_ : Aside0 ((w44.setCell ⟨gb108, 9, none⟩ (.int .i64 (Int.tmod a0_9 10))).heap[gb101]? = some (.cells #[.int .i64 a0_0, .int .i64 a0_1, .int .i64 a0_2, .int .i64 a0_3, .int .i64 a0_4, .int .i64 a0_5, .int .i64 a0_6, .int .i64 a0_7, .int .i64 a0_8, .int .i64 a0_9, .int .i64 a0_10] 25 (0, 0))) := ⟨kp BK101.out⟩
    have n1_ : Aside0 ((w44.setCell ⟨gb108, 9, none⟩ (.int .i64 (Int.tmod a0_9 10))).heap[gb102]? = some (.cells #[.int .i64 0, .int .i64 0, .int .i64 0, .int .i64 0, .int .i64 0, .int .i64 0, .int .i64 0, .int .i64 0, .int .i64 0, .int .i64 0, .int .i64 0] 31 (0, 0))) := ⟨kp BK102.out⟩
    have n2_ : Aside0 ((w44.setCell ⟨gb108, 9, none⟩ (.int .i64 (Int.tmod a0_9 10))).heap[gb107]? = some (.cells #[.int .i64 x108000_2, .int .i64 x108001_2, .int .i64 x108002_2, .int .i64 t106] 54 (0, 0))) := ⟨kp BK107.out⟩
    have n3_ : Aside0 ((w44.setCell ⟨gb108, 9, none⟩ (.int .i64 (Int.tmod a0_9 10))).heap[gb108]? = some (.cells #[.int .i64 x108000_2, .int .i64 x108001_2, .int .i64 x108002_2, .int .i64 (Int.tmod a0_3 10), .int .i64 (Int.tmod a0_4 10), .int .i64 (Int.tmod a0_5 10), .int .i64 (Int.tmod a0_6 10), .int .i64 (Int.tmod a0_7 10), .int .i64 (Int.tmod a0_8 10), .int .i64 (Int.tmod a0_9 10), .int .i64 0] 31 (0, 0))) := ⟨kp (p11_9 (kp BK108.out))⟩
    have n4_ : Aside0 (Below w.heap.size w (w44.setCell ⟨gb108, 9, none⟩ (.int .i64 (Int.tmod a0_9 10)))) := ⟨bl HB.out⟩
    (try clear BK101)
    (try clear BK102)
    (try clear BK107)
    (try clear BK108)
    (try clear HB)
    generalize (w44.setCell ⟨gb108, 9, none⟩ (.int .i64 (Int.tmod a0_9 10))) = w47 at n0_ n1_ n2_ n3_ n4_ ⊢
    have BK101 := n0_
    have BK102 := n1_
    have BK107 := n2_
    have BK108 := n3_
    have HB := n4_
    clear n0_ n1_ n2_ n3_ n4_
    (try (rw [drewN_self w47]; generalize hq_ : World.drewN w47 _ = w47; replace BK101 := Aside0.mk (kq hq_ BK101.out); replace BK102 := Aside0.mk (kq hq_ BK102.out); replace BK107 := Aside0.mk (kq hq_ BK107.out); replace BK108 := Aside0.mk (kq hq_ BK108.out); replace HB := Aside0.mk (bq hq_ HB.out); clear hq_))
    obtain ⟨hcz48_0, hcz48_1, hcz48_2, hcz48_3, hcz48_4, hcz48_5, hcz48_6, hcz48_7, hcz48_8, hcz48_9, hcz48_10⟩ := hc11 BK101.out
    obtain ⟨hfz48_0, hfz48_1, hfz48_2, hfz48_3, hfz48_4, hfz48_5, hfz48_6, hfz48_7, hfz48_8, hfz48_9, hfz48_10⟩ := hf11 BK101.out
    obtain ⟨hcz49_0, hcz49_1, hcz49_2, hcz49_3, hcz49_4, hcz49_5, hcz49_6, hcz49_7, hcz49_8, hcz49_9, hcz49_10⟩ := hc11 BK108.out
    obtain ⟨hfz49_0, hfz49_1, hfz49_2, hfz49_3, hfz49_4, hfz49_5, hfz49_6, hfz49_7, hfz49_8, hfz49_9, hfz49_10⟩ := hf11 BK108.out
    obtain ⟨hcz50_0, hcz50_1, hcz50_2, hcz50_3, hcz50_4, hcz50_5, hcz50_6, hcz50_7, hcz50_8, hcz50_9, hcz50_10⟩ := hc11 BK102.out
    obtain ⟨hfz50_0, hfz50_1, hfz50_2, hfz50_3, hfz50_4, hfz50_5, hfz50_6, hfz50_7, hfz50_8, hfz50_9, hfz50_10⟩ := hf11 BK102.out
    go_wp2
    refine bodyPost_ret (results_cell_row rfl _ _ gb102 31 #[.int .i64 x108000_2, .int .i64 x108001_2, .int .i64 x108002_2, .int .i64 (Int.tmod a0_3 10), .int .i64 (Int.tmod a0_4 10), .int .i64 (Int.tmod a0_5 10), .int .i64 (Int.tmod a0_6 10), .int .i64 (Int.tmod a0_7 10), .int .i64 (Int.tmod a0_8 10), .int .i64 (Int.tmod a0_9 10), .int .i64 (Int.tmod (wrap64 ((Int.tmod a0_10 8) + 8)) 8)] (0, 0) _ rfl (kp (p11_10 (kp (p11_9 (kp (p11_8 (kp (p11_7 (kp (p11_6 (kp (p11_5 (kp (p11_4 (kp (p11_3 (kp (p11_2 (kp (p11_1 (kp (p11_0 (kp BK102.out))))))))))))))))))))))) Tryd.underlying31 rfl (by kernel_rfl)) rfl ?_
    exact ⟨by first | rfl | (simp [errW_none, errW_some] <;> rfl) | (simp [*, errW_none, errW_some] <;> rfl), bl HB.out⟩
   ·rw [if_neg c17] at H
    have c17b0 : decide ((Int.tmod (wrap64 ((Int.tmod a0_10 8) + 8)) 8) < 4) = false := decide_eq_false c17
    clear c17
    simp only [Option.some.injEq, Prod.mk.injEq] at H
    obtain ⟨rfl, rfl, rfl, rfl, rfl, rfl, rfl, rfl, rfl, rfl, rfl⟩ := H
    have hnb51 := NB107_101.out
    have hnc51 := NB101_107.out
    have hnb52 := NB107_102.out
    have hnc52 := NB102_107.out
    obtain ⟨hcz53_0, hcz53_1, hcz53_2, hcz53_3⟩ := hc4 BK107.out
    obtain ⟨hfz53_0, hfz53_1, hfz53_2, hfz53_3⟩ := hf4 BK107.out
    go_wp2_with (first | ((with_reducible refine gate_dst (N := 4) rfl ?_); refine box_event ?hg (N := 4) ?hd (cs := #[.int .i64 0, .int .i64 0, .int .i64 0, .int .i64 0, .int .i64 0, .int .i64 0, .int .i64 0, .int .i64 0, .int .i64 0, .int .i64 0, .int .i64 0]) (t := 31) ?hr ?_; (case hd => rfl); (case hg => rfl); (case hr => first | (go_simp; done) | (go_simp; rfl)); intro gb108 hg w54 hbox hb; have n0_ := kb BK101 hb; have n1_ := kb BK102 hb; have n2_ := kb BK107 hb; have n3_ := sb HB hb; have n4_ := Aside0.mk (hbox); have n5_ := Aside0.mk ((by rw [hg]; exact (below_size (bl HB.out)) : w.heap.size ≤ gb108)); have n6_ := Aside0.mk ((by rw [hg]; exact (below_size (bl HB.out)) : w.heap.size ≤ gb108)); have n7_ := Aside0.mk ((by rw [hg]; exact Nat.ne_of_lt (blk_lt (kp BK101.out)) : gb101 ≠ gb108)); have n8_ := Aside0.mk ((by rw [hg]; exact Nat.ne_of_gt (blk_lt (kp BK101.out)) : gb108 ≠ gb101)); have n9_ := Aside0.mk ((by rw [hg]; exact Nat.ne_of_lt (blk_lt (kp BK102.out)) : gb102 ≠ gb108)); have n10_ := Aside0.mk ((by rw [hg]; exact Nat.ne_of_gt (blk_lt (kp BK102.out)) : gb108 ≠ gb102)); have n11_ := Aside0.mk ((by rw [hg]; exact Nat.ne_of_lt (blk_lt (kp BK107.out)) : gb107 ≠ gb108)); have n12_ := Aside0.mk ((by rw [hg]; exact Nat.ne_of_gt (blk_lt (kp BK107.out)) : gb108 ≠ gb107)); clear BK101; clear BK102; clear BK107; clear HB; have BK101 := n0_; have BK102 := n1_; have BK107 := n2_; have HB := n3_; have BK108 := n4_; have GW108 := n5_; have GE108 := n6_; have NB101_108 := n7_; have NB108_101 := n8_; have NB102_108 := n9_; have NB108_102 := n10_; have NB107_108 := n11_; have NB108_107 := n12_; clear n0_ n1_ n2_ n3_ n4_ n5_ n6_ n7_ n8_ n9_ n10_ n11_ n12_; clear hb hbox hg; have hnb55 := NB108_101.out; have hnc55 := NB101_108.out; have hnb56 := NB108_102.out; have hnc56 := NB102_108.out; have hnb57 := NB108_107.out; have hnc57 := NB107_108.out; obtain ⟨hcz58_0, hcz58_1, hcz58_2, hcz58_3, hcz58_4, hcz58_5, hcz58_6, hcz58_7, hcz58_8, hcz58_9, hcz58_10⟩ := hc11 BK108.out; obtain ⟨hfz58_0, hfz58_1, hfz58_2, hfz58_3, hfz58_4, hfz58_5, hfz58_6, hfz58_7, hfz58_8, hfz58_9, hfz58_10⟩ := hf11 BK108.out))
    refine wp_loop_rounds 41 ?_
    rw [rounds_succ]
    have hnb59 := NB101_102.out
    have hnc59 := NB102_101.out
    obtain ⟨hcz60_0, hcz60_1, hcz60_2, hcz60_3, hcz60_4, hcz60_5, hcz60_6, hcz60_7, hcz60_8, hcz60_9, hcz60_10⟩ := hc11 BK101.out
    obtain ⟨hfz60_0, hfz60_1, hfz60_2, hfz60_3, hfz60_4, hfz60_5, hfz60_6, hfz60_7, hfz60_8, hfz60_9, hfz60_10⟩ := hf11 BK101.out
    obtain ⟨hcz61_0, hcz61_1, hcz61_2, hcz61_3, hcz61_4, hcz61_5, hcz61_6, hcz61_7, hcz61_8, hcz61_9, hcz61_10⟩ := hc11 BK108.out
    obtain ⟨hfz61_0, hfz61_1, hfz61_2, hfz61_3, hfz61_4, hfz61_5, hfz61_6, hfz61_7, hfz61_8, hfz61_9, hfz61_10⟩ := hf11 BK108.out
    go_wp2
    rw [rounds_succ]
    have n0_ : Aside0 (((((((((((((w54.setCell ⟨gb108, 0, none⟩ (.int .i64 x108000_2)).setCell ⟨gb108, 1, none⟩ (.int .i64 x108001_2)).setCell ⟨gb108, 2, none⟩ (.int .i64 x108002_2)).setCell ⟨gb108, 3, none⟩ (.int .i64 0)).setCell ⟨gb108, 4, none⟩ (.int .i64 0)).setCell ⟨gb108, 5, none⟩ (.int .i64 0)).setCell ⟨gb108, 6, none⟩ (.int .i64 0)).setCell ⟨gb108, 7, none⟩ (.int .i64 0)).setCell ⟨gb108, 8, none⟩ (.int .i64 0)).setCell ⟨gb108, 9, none⟩ (.int .i64 0)).setCell ⟨gb108, 10, none⟩ (.int .i64 0)).setCell ⟨gb108, 3, none⟩ (.int .i64 (Int.tmod a0_3 10))).heap[gb101]? = some (.cells #[.int .i64 a0_0, .int .i64 a0_1, .int .i64 a0_2, .int .i64 a0_3, .int .i64 a0_4, .int .i64 a0_5, .int .i64 a0_6, .int .i64 a0_7, .int .i64 a0_8, .int .i64 a0_9, .int .i64 a0_10] 25 (0, 0))) := ⟨kp BK101.out⟩
    have n1_ : Aside0 (((((((((((((w54.setCell ⟨gb108, 0, none⟩ (.int .i64 x108000_2)).setCell ⟨gb108, 1, none⟩ (.int .i64 x108001_2)).setCell ⟨gb108, 2, none⟩ (.int .i64 x108002_2)).setCell ⟨gb108, 3, none⟩ (.int .i64 0)).setCell ⟨gb108, 4, none⟩ (.int .i64 0)).setCell ⟨gb108, 5, none⟩ (.int .i64 0)).setCell ⟨gb108, 6, none⟩ (.int .i64 0)).setCell ⟨gb108, 7, none⟩ (.int .i64 0)).setCell ⟨gb108, 8, none⟩ (.int .i64 0)).setCell ⟨gb108, 9, none⟩ (.int .i64 0)).setCell ⟨gb108, 10, none⟩ (.int .i64 0)).setCell ⟨gb108, 3, none⟩ (.int .i64 (Int.tmod a0_3 10))).heap[gb102]? = some (.cells #[.int .i64 0, .int .i64 0, .int .i64 0, .int .i64 0, .int .i64 0, .int .i64 0, .int .i64 0, .int .i64 0, .int .i64 0, .int .i64 0, .int .i64 0] 31 (0, 0))) := ⟨kp BK102.out⟩
    have n2_ : Aside0 (((((((((((((w54.setCell ⟨gb108, 0, none⟩ (.int .i64 x108000_2)).setCell ⟨gb108, 1, none⟩ (.int .i64 x108001_2)).setCell ⟨gb108, 2, none⟩ (.int .i64 x108002_2)).setCell ⟨gb108, 3, none⟩ (.int .i64 0)).setCell ⟨gb108, 4, none⟩ (.int .i64 0)).setCell ⟨gb108, 5, none⟩ (.int .i64 0)).setCell ⟨gb108, 6, none⟩ (.int .i64 0)).setCell ⟨gb108, 7, none⟩ (.int .i64 0)).setCell ⟨gb108, 8, none⟩ (.int .i64 0)).setCell ⟨gb108, 9, none⟩ (.int .i64 0)).setCell ⟨gb108, 10, none⟩ (.int .i64 0)).setCell ⟨gb108, 3, none⟩ (.int .i64 (Int.tmod a0_3 10))).heap[gb107]? = some (.cells #[.int .i64 x108000_2, .int .i64 x108001_2, .int .i64 x108002_2, .int .i64 t106] 54 (0, 0))) := ⟨kp BK107.out⟩
    have n3_ : Aside0 (((((((((((((w54.setCell ⟨gb108, 0, none⟩ (.int .i64 x108000_2)).setCell ⟨gb108, 1, none⟩ (.int .i64 x108001_2)).setCell ⟨gb108, 2, none⟩ (.int .i64 x108002_2)).setCell ⟨gb108, 3, none⟩ (.int .i64 0)).setCell ⟨gb108, 4, none⟩ (.int .i64 0)).setCell ⟨gb108, 5, none⟩ (.int .i64 0)).setCell ⟨gb108, 6, none⟩ (.int .i64 0)).setCell ⟨gb108, 7, none⟩ (.int .i64 0)).setCell ⟨gb108, 8, none⟩ (.int .i64 0)).setCell ⟨gb108, 9, none⟩ (.int .i64 0)).setCell ⟨gb108, 10, none⟩ (.int .i64 0)).setCell ⟨gb108, 3, none⟩ (.int .i64 (Int.tmod a0_3 10))).heap[gb108]? = some (.cells #[.int .i64 x108000_2, .int .i64 x108001_2, .int .i64 x108002_2, .int .i64 (Int.tmod a0_3 10), .int .i64 0, .int .i64 0, .int .i64 0, .int .i64 0, .int .i64 0, .int .i64 0, .int .i64 0] 31 (0, 0))) := ⟨kp (p11_3 (kp (p11_10 (kp (p11_9 (kp (p11_8 (kp (p11_7 (kp (p11_6 (kp (p11_5 (kp (p11_4 (kp (p11_3 (kp (p11_2 (kp (p11_1 (kp (p11_0 (kp BK108.out))))))))))))))))))))))))⟩
    have n4_ : Aside0 (Below w.heap.size w ((((((((((((w54.setCell ⟨gb108, 0, none⟩ (.int .i64 x108000_2)).setCell ⟨gb108, 1, none⟩ (.int .i64 x108001_2)).setCell ⟨gb108, 2, none⟩ (.int .i64 x108002_2)).setCell ⟨gb108, 3, none⟩ (.int .i64 0)).setCell ⟨gb108, 4, none⟩ (.int .i64 0)).setCell ⟨gb108, 5, none⟩ (.int .i64 0)).setCell ⟨gb108, 6, none⟩ (.int .i64 0)).setCell ⟨gb108, 7, none⟩ (.int .i64 0)).setCell ⟨gb108, 8, none⟩ (.int .i64 0)).setCell ⟨gb108, 9, none⟩ (.int .i64 0)).setCell ⟨gb108, 10, none⟩ (.int .i64 0)).setCell ⟨gb108, 3, none⟩ (.int .i64 (Int.tmod a0_3 10)))) := ⟨bl HB.out⟩
    (try clear BK101)
    (try clear BK102)
    (try clear BK107)
    (try clear BK108)
    (try clear HB)
    generalize ((((((((((((w54.setCell ⟨gb108, 0, none⟩ (.int .i64 x108000_2)).setCell ⟨gb108, 1, none⟩ (.int .i64 x108001_2)).setCell ⟨gb108, 2, none⟩ (.int .i64 x108002_2)).setCell ⟨gb108, 3, none⟩ (.int .i64 0)).setCell ⟨gb108, 4, none⟩ (.int .i64 0)).setCell ⟨gb108, 5, none⟩ (.int .i64 0)).setCell ⟨gb108, 6, none⟩ (.int .i64 0)).setCell ⟨gb108, 7, none⟩ (.int .i64 0)).setCell ⟨gb108, 8, none⟩ (.int .i64 0)).setCell ⟨gb108, 9, none⟩ (.int .i64 0)).setCell ⟨gb108, 10, none⟩ (.int .i64 0)).setCell ⟨gb108, 3, none⟩ (.int .i64 (Int.tmod a0_3 10))) = w62 at n0_ n1_ n2_ n3_ n4_ ⊢
    have BK101 := n0_
    have BK102 := n1_
    have BK107 := n2_
    have BK108 := n3_
    have HB := n4_
    clear n0_ n1_ n2_ n3_ n4_
    (try (rw [drewN_self w62]; generalize hq_ : World.drewN w62 _ = w62; replace BK101 := Aside0.mk (kq hq_ BK101.out); replace BK102 := Aside0.mk (kq hq_ BK102.out); replace BK107 := Aside0.mk (kq hq_ BK107.out); replace BK108 := Aside0.mk (kq hq_ BK108.out); replace HB := Aside0.mk (bq hq_ HB.out); clear hq_))
    obtain ⟨hcz63_0, hcz63_1, hcz63_2, hcz63_3, hcz63_4, hcz63_5, hcz63_6, hcz63_7, hcz63_8, hcz63_9, hcz63_10⟩ := hc11 BK101.out
    obtain ⟨hfz63_0, hfz63_1, hfz63_2, hfz63_3, hfz63_4, hfz63_5, hfz63_6, hfz63_7, hfz63_8, hfz63_9, hfz63_10⟩ := hf11 BK101.out
    obtain ⟨hcz64_0, hcz64_1, hcz64_2, hcz64_3, hcz64_4, hcz64_5, hcz64_6, hcz64_7, hcz64_8, hcz64_9, hcz64_10⟩ := hc11 BK108.out
    obtain ⟨hfz64_0, hfz64_1, hfz64_2, hfz64_3, hfz64_4, hfz64_5, hfz64_6, hfz64_7, hfz64_8, hfz64_9, hfz64_10⟩ := hf11 BK108.out
    go_wp2
    rw [rounds_succ]
    have n0_ : Aside0 ((w62.setCell ⟨gb108, 4, none⟩ (.int .i64 (Int.tmod a0_4 10))).heap[gb101]? = some (.cells #[.int .i64 a0_0, .int .i64 a0_1, .int .i64 a0_2, .int .i64 a0_3, .int .i64 a0_4, .int .i64 a0_5, .int .i64 a0_6, .int .i64 a0_7, .int .i64 a0_8, .int .i64 a0_9, .int .i64 a0_10] 25 (0, 0))) := ⟨kp BK101.out⟩
    have n1_ : Aside0 ((w62.setCell ⟨gb108, 4, none⟩ (.int .i64 (Int.tmod a0_4 10))).heap[gb102]? = some (.cells #[.int .i64 0, .int .i64 0, .int .i64 0, .int .i64 0, .int .i64 0, .int .i64 0, .int .i64 0, .int .i64 0, .int .i64 0, .int .i64 0, .int .i64 0] 31 (0, 0))) := ⟨kp BK102.out⟩
    have n2_ : Aside0 ((w62.setCell ⟨gb108, 4, none⟩ (.int .i64 (Int.tmod a0_4 10))).heap[gb107]? = some (.cells #[.int .i64 x108000_2, .int .i64 x108001_2, .int .i64 x108002_2, .int .i64 t106] 54 (0, 0))) := ⟨kp BK107.out⟩
    have n3_ : Aside0 ((w62.setCell ⟨gb108, 4, none⟩ (.int .i64 (Int.tmod a0_4 10))).heap[gb108]? = some (.cells #[.int .i64 x108000_2, .int .i64 x108001_2, .int .i64 x108002_2, .int .i64 (Int.tmod a0_3 10), .int .i64 (Int.tmod a0_4 10), .int .i64 0, .int .i64 0, .int .i64 0, .int .i64 0, .int .i64 0, .int .i64 0] 31 (0, 0))) := ⟨kp (p11_4 (kp BK108.out))⟩
    have n4_ : Aside0 (Below w.heap.size w (w62.setCell ⟨gb108, 4, none⟩ (.int .i64 (Int.tmod a0_4 10)))) := ⟨bl HB.out⟩
    (try clear BK101)
    (try clear BK102)
    (try clear BK107)
    (try clear BK108)
    (try clear HB)
    generalize (w62.setCell ⟨gb108, 4, none⟩ (.int .i64 (Int.tmod a0_4 10))) = w65 at n0_ n1_ n2_ n3_ n4_ ⊢
    have BK101 := n0_
    have BK102 := n1_
    have BK107 := n2_
    have BK108 := n3_
    have HB := n4_
    clear n0_ n1_ n2_ n3_ n4_
    (try (rw [drewN_self w65]; generalize hq_ : World.drewN w65 _ = w65; replace BK101 := Aside0.mk (kq hq_ BK101.out); replace BK102 := Aside0.mk (kq hq_ BK102.out); replace BK107 := Aside0.mk (kq hq_ BK107.out); replace BK108 := Aside0.mk (kq hq_ BK108.out); replace HB := Aside0.mk (bq hq_ HB.out); clear hq_))
    obtain ⟨hcz66_0, hcz66_1, hcz66_2, hcz66_3, hcz66_4, hcz66_5, hcz66_6, hcz66_7, hcz66_8, hcz66_9, hcz66_10⟩ := hc11 BK101.out
    obtain ⟨hfz66_0, hfz66_1, hfz66_2, hfz66_3, hfz66_4, hfz66_5, hfz66_6, hfz66_7, hfz66_8, hfz66_9, hfz66_10⟩ := hf11 BK101.out
    obtain ⟨hcz67_0, hcz67_1, hcz67_2, hcz67_3, hcz67_4, hcz67_5, hcz67_6, hcz67_7, hcz67_8, hcz67_9, hcz67_10⟩ := hc11 BK108.out
    obtain ⟨hfz67_0, hfz67_1, hfz67_2, hfz67_3, hfz67_4, hfz67_5, hfz67_6, hfz67_7, hfz67_8, hfz67_9, hfz67_10⟩ := hf11 BK108.out
    go_wp2
    rw [rounds_succ]
    have n0_ : Aside0 ((w65.setCell ⟨gb108, 5, none⟩ (.int .i64 (Int.tmod a0_5 10))).heap[gb101]? = some (.cells #[.int .i64 a0_0, .int .i64 a0_1, .int .i64 a0_2, .int .i64 a0_3, .int .i64 a0_4, .int .i64 a0_5, .int .i64 a0_6, .int .i64 a0_7, .int .i64 a0_8, .int .i64 a0_9, .int .i64 a0_10] 25 (0, 0))) := ⟨kp BK101.out⟩
    have n1_ : Aside0 ((w65.setCell ⟨gb108, 5, none⟩ (.int .i64 (Int.tmod a0_5 10))).heap[gb102]? = some (.cells #[.int .i64 0, .int .i64 0, .int .i64 0, .int .i64 0, .int .i64 0, .int .i64 0, .int .i64 0, .int .i64 0, .int .i64 0, .int .i64 0, .int .i64 0] 31 (0, 0))) := ⟨kp BK102.out⟩
    have n2_ : Aside0 ((w65.setCell ⟨gb108, 5, none⟩ (.int .i64 (Int.tmod a0_5 10))).heap[gb107]? = some (.cells #[.int .i64 x108000_2, .int .i64 x108001_2, .int .i64 x108002_2, .int .i64 t106] 54 (0, 0))) := ⟨kp BK107.out⟩
    have n3_ : Aside0 ((w65.setCell ⟨gb108, 5, none⟩ (.int .i64 (Int.tmod a0_5 10))).heap[gb108]? = some (.cells #[.int .i64 x108000_2, .int .i64 x108001_2, .int .i64 x108002_2, .int .i64 (Int.tmod a0_3 10), .int .i64 (Int.tmod a0_4 10), .int .i64 (Int.tmod a0_5 10), .int .i64 0, .int .i64 0, .int .i64 0, .int .i64 0, .int .i64 0] 31 (0, 0))) := ⟨kp (p11_5 (kp BK108.out))⟩
    have n4_ : Aside0 (Below w.heap.size w (w65.setCell ⟨gb108, 5, none⟩ (.int .i64 (Int.tmod a0_5 10)))) := ⟨bl HB.out⟩
    (try clear BK101)
    (try clear BK102)
    (try clear BK107)
    (try clear BK108)
    (try clear HB)
    generalize (w65.setCell ⟨gb108, 5, none⟩ (.int .i64 (Int.tmod a0_5 10))) = w68 at n0_ n1_ n2_ n3_ n4_ ⊢
    have BK101 := n0_
    have BK102 := n1_
    have BK107 := n2_
    have BK108 := n3_
    have HB := n4_
    clear n0_ n1_ n2_ n3_ n4_
    (try (rw [drewN_self w68]; generalize hq_ : World.drewN w68 _ = w68; replace BK101 := Aside0.mk (kq hq_ BK101.out); replace BK102 := Aside0.mk (kq hq_ BK102.out); replace BK107 := Aside0.mk (kq hq_ BK107.out); replace BK108 := Aside0.mk (kq hq_ BK108.out); replace HB := Aside0.mk (bq hq_ HB.out); clear hq_))
    obtain ⟨hcz69_0, hcz69_1, hcz69_2, hcz69_3, hcz69_4, hcz69_5, hcz69_6, hcz69_7, hcz69_8, hcz69_9, hcz69_10⟩ := hc11 BK101.out
    obtain ⟨hfz69_0, hfz69_1, hfz69_2, hfz69_3, hfz69_4, hfz69_5, hfz69_6, hfz69_7, hfz69_8, hfz69_9, hfz69_10⟩ := hf11 BK101.out
    obtain ⟨hcz70_0, hcz70_1, hcz70_2, hcz70_3, hcz70_4, hcz70_5, hcz70_6, hcz70_7, hcz70_8, hcz70_9, hcz70_10⟩ := hc11 BK108.out
    obtain ⟨hfz70_0, hfz70_1, hfz70_2, hfz70_3, hfz70_4, hfz70_5, hfz70_6, hfz70_7, hfz70_8, hfz70_9, hfz70_10⟩ := hf11 BK108.out
    go_wp2
    rw [rounds_succ]
    have n0_ : Aside0 ((w68.setCell ⟨gb108, 6, none⟩ (.int .i64 (Int.tmod a0_6 10))).heap[gb101]? = some (.cells #[.int .i64 a0_0, .int .i64 a0_1, .int .i64 a0_2, .int .i64 a0_3, .int .i64 a0_4, .int .i64 a0_5, .int .i64 a0_6, .int .i64 a0_7, .int .i64 a0_8, .int .i64 a0_9, .int .i64 a0_10] 25 (0, 0))) := ⟨kp BK101.out⟩
    have n1_ : Aside0 ((w68.setCell ⟨gb108, 6, none⟩ (.int .i64 (Int.tmod a0_6 10))).heap[gb102]? = some (.cells #[.int .i64 0, .int .i64 0, .int .i64 0, .int .i64 0, .int .i64 0, .int .i64 0, .int .i64 0, .int .i64 0, .int .i64 0, .int .i64 0, .int .i64 0] 31 (0, 0))) := ⟨kp BK102.out⟩
    have n2_ : Aside0 ((w68.setCell ⟨gb108, 6, none⟩ (.int .i64 (Int.tmod a0_6 10))).heap[gb107]? = some (.cells #[.int .i64 x108000_2, .int .i64 x108001_2, .int .i64 x108002_2, .int .i64 t106] 54 (0, 0))) := ⟨kp BK107.out⟩
    have n3_ : Aside0 ((w68.setCell ⟨gb108, 6, none⟩ (.int .i64 (Int.tmod a0_6 10))).heap[gb108]? = some (.cells #[.int .i64 x108000_2, .int .i64 x108001_2, .int .i64 x108002_2, .int .i64 (Int.tmod a0_3 10), .int .i64 (Int.tmod a0_4 10), .int .i64 (Int.tmod a0_5 10), .int .i64 (Int.tmod a0_6 10), .int .i64 0, .int .i64 0, .int .i64 0, .int .i64 0] 31 (0, 0))) := ⟨kp (p11_6 (kp BK108.out))⟩
    have n4_ : Aside0 (Below w.heap.size w (w68.setCell ⟨gb108, 6, none⟩ (.int .i64 (Int.tmod a0_6 10)))) := ⟨bl HB.out⟩
    (try clear BK101)
    (try clear BK102)
    (try clear BK107)
    (try clear BK108)
    (try clear HB)
    generalize (w68.setCell ⟨gb108, 6, none⟩ (.int .i64 (Int.tmod a0_6 10))) = w71 at n0_ n1_ n2_ n3_ n4_ ⊢
    have BK101 := n0_
    have BK102 := n1_
    have BK107 := n2_
    have BK108 := n3_
    have HB := n4_
    clear n0_ n1_ n2_ n3_ n4_
    (try (rw [drewN_self w71]; generalize hq_ : World.drewN w71 _ = w71; replace BK101 := Aside0.mk (kq hq_ BK101.out); replace BK102 := Aside0.mk (kq hq_ BK102.out); replace BK107 := Aside0.mk (kq hq_ BK107.out); replace BK108 := Aside0.mk (kq hq_ BK108.out); replace HB := Aside0.mk (bq hq_ HB.out); clear hq_))
    obtain ⟨hcz72_0, hcz72_1, hcz72_2, hcz72_3, hcz72_4, hcz72_5, hcz72_6, hcz72_7, hcz72_8, hcz72_9, hcz72_10⟩ := hc11 BK101.out
    obtain ⟨hfz72_0, hfz72_1, hfz72_2, hfz72_3, hfz72_4, hfz72_5, hfz72_6, hfz72_7, hfz72_8, hfz72_9, hfz72_10⟩ := hf11 BK101.out
    obtain ⟨hcz73_0, hcz73_1, hcz73_2, hcz73_3, hcz73_4, hcz73_5, hcz73_6, hcz73_7, hcz73_8, hcz73_9, hcz73_10⟩ := hc11 BK108.out
    obtain ⟨hfz73_0, hfz73_1, hfz73_2, hfz73_3, hfz73_4, hfz73_5, hfz73_6, hfz73_7, hfz73_8, hfz73_9, hfz73_10⟩ := hf11 BK108.out
    go_wp2
    rw [rounds_succ]
    have n0_ : Aside0 ((w71.setCell ⟨gb108, 7, none⟩ (.int .i64 (Int.tmod a0_7 10))).heap[gb101]? = some (.cells #[.int .i64 a0_0, .int .i64 a0_1, .int .i64 a0_2, .int .i64 a0_3, .int .i64 a0_4, .int .i64 a0_5, .int .i64 a0_6, .int .i64 a0_7, .int .i64 a0_8, .int .i64 a0_9, .int .i64 a0_10] 25 (0, 0))) := ⟨kp BK101.out⟩
    have n1_ : Aside0 ((w71.setCell ⟨gb108, 7, none⟩ (.int .i64 (Int.tmod a0_7 10))).heap[gb102]? = some (.cells #[.int .i64 0, .int .i64 0, .int .i64 0, .int .i64 0, .int .i64 0, .int .i64 0, .int .i64 0, .int .i64 0, .int .i64 0, .int .i64 0, .int .i64 0] 31 (0, 0))) := ⟨kp BK102.out⟩
    have n2_ : Aside0 ((w71.setCell ⟨gb108, 7, none⟩ (.int .i64 (Int.tmod a0_7 10))).heap[gb107]? = some (.cells #[.int .i64 x108000_2, .int .i64 x108001_2, .int .i64 x108002_2, .int .i64 t106] 54 (0, 0))) := ⟨kp BK107.out⟩
    have n3_ : Aside0 ((w71.setCell ⟨gb108, 7, none⟩ (.int .i64 (Int.tmod a0_7 10))).heap[gb108]? = some (.cells #[.int .i64 x108000_2, .int .i64 x108001_2, .int .i64 x108002_2, .int .i64 (Int.tmod a0_3 10), .int .i64 (Int.tmod a0_4 10), .int .i64 (Int.tmod a0_5 10), .int .i64 (Int.tmod a0_6 10), .int .i64 (Int.tmod a0_7 10), .int .i64 0, .int .i64 0, .int .i64 0] 31 (0, 0))) := ⟨kp (p11_7 (kp BK108.out))⟩
    have n4_ : Aside0 (Below w.heap.size w (w71.setCell ⟨gb108, 7, none⟩ (.int .i64 (Int.tmod a0_7 10)))) := ⟨bl HB.out⟩
    (try clear BK101)
    (try clear BK102)
    (try clear BK107)
    (try clear BK108)
    (try clear HB)
    generalize (w71.setCell ⟨gb108, 7, none⟩ (.int .i64 (Int.tmod a0_7 10))) = w74 at n0_ n1_ n2_ n3_ n4_ ⊢
    have BK101 := n0_
    have BK102 := n1_
    have BK107 := n2_
    have BK108 := n3_
    have HB := n4_
    clear n0_ n1_ n2_ n3_ n4_
    (try (rw [drewN_self w74]; generalize hq_ : World.drewN w74 _ = w74; replace BK101 := Aside0.mk (kq hq_ BK101.out); replace BK102 := Aside0.mk (kq hq_ BK102.out); replace BK107 := Aside0.mk (kq hq_ BK107.out); replace BK108 := Aside0.mk (kq hq_ BK108.out); replace HB := Aside0.mk (bq hq_ HB.out); clear hq_))
    obtain ⟨hcz75_0, hcz75_1, hcz75_2, hcz75_3, hcz75_4, hcz75_5, hcz75_6, hcz75_7, hcz75_8, hcz75_9, hcz75_10⟩ := hc11 BK101.out
    obtain ⟨hfz75_0, hfz75_1, hfz75_2, hfz75_3, hfz75_4, hfz75_5, hfz75_6, hfz75_7, hfz75_8, hfz75_9, hfz75_10⟩ := hf11 BK101.out
    obtain ⟨hcz76_0, hcz76_1, hcz76_2, hcz76_3, hcz76_4, hcz76_5, hcz76_6, hcz76_7, hcz76_8, hcz76_9, hcz76_10⟩ := hc11 BK108.out
    obtain ⟨hfz76_0, hfz76_1, hfz76_2, hfz76_3, hfz76_4, hfz76_5, hfz76_6, hfz76_7, hfz76_8, hfz76_9, hfz76_10⟩ := hf11 BK108.out
    go_wp2
    rw [rounds_succ]
    have n0_ : Aside0 ((w74.setCell ⟨gb108, 8, none⟩ (.int .i64 (Int.tmod a0_8 10))).heap[gb101]? = some (.cells #[.int .i64 a0_0, .int .i64 a0_1, .int .i64 a0_2, .int .i64 a0_3, .int .i64 a0_4, .int .i64 a0_5, .int .i64 a0_6, .int .i64 a0_7, .int .i64 a0_8, .int .i64 a0_9, .int .i64 a0_10] 25 (0, 0))) := ⟨kp BK101.out⟩
    have n1_ : Aside0 ((w74.setCell ⟨gb108, 8, none⟩ (.int .i64 (Int.tmod a0_8 10))).heap[gb102]? = some (.cells #[.int .i64 0, .int .i64 0, .int .i64 0, .int .i64 0, .int .i64 0, .int .i64 0, .int .i64 0, .int .i64 0, .int .i64 0, .int .i64 0, .int .i64 0] 31 (0, 0))) := ⟨kp BK102.out⟩
    have n2_ : Aside0 ((w74.setCell ⟨gb108, 8, none⟩ (.int .i64 (Int.tmod a0_8 10))).heap[gb107]? = some (.cells #[.int .i64 x108000_2, .int .i64 x108001_2, .int .i64 x108002_2, .int .i64 t106] 54 (0, 0))) := ⟨kp BK107.out⟩
    have n3_ : Aside0 ((w74.setCell ⟨gb108, 8, none⟩ (.int .i64 (Int.tmod a0_8 10))).heap[gb108]? = some (.cells #[.int .i64 x108000_2, .int .i64 x108001_2, .int .i64 x108002_2, .int .i64 (Int.tmod a0_3 10), .int .i64 (Int.tmod a0_4 10), .int .i64 (Int.tmod a0_5 10), .int .i64 (Int.tmod a0_6 10), .int .i64 (Int.tmod a0_7 10), .int .i64 (Int.tmod a0_8 10), .int .i64 0, .int .i64 0] 31 (0, 0))) := ⟨kp (p11_8 (kp BK108.out))⟩
    have n4_ : Aside0 (Below w.heap.size w (w74.setCell ⟨gb108, 8, none⟩ (.int .i64 (Int.tmod a0_8 10)))) := ⟨bl HB.out⟩
    (try clear BK101)
    (try clear BK102)
    (try clear BK107)
    (try clear BK108)
    (try clear HB)
    generalize (w74.setCell ⟨gb108, 8, none⟩ (.int .i64 (Int.tmod a0_8 10))) = w77 at n0_ n1_ n2_ n3_ n4_ ⊢
    have BK101 := n0_
    have BK102 := n1_
    have BK107 := n2_
    have BK108 := n3_
    have HB := n4_
    clear n0_ n1_ n2_ n3_ n4_
    (try (rw [drewN_self w77]; generalize hq_ : World.drewN w77 _ = w77; replace BK101 := Aside0.mk (kq hq_ BK101.out); replace BK102 := Aside0.mk (kq hq_ BK102.out); replace BK107 := Aside0.mk (kq hq_ BK107.out); replace BK108 := Aside0.mk (kq hq_ BK108.out); replace HB := Aside0.mk (bq hq_ HB.out); clear hq_))
    obtain ⟨hcz78_0, hcz78_1, hcz78_2, hcz78_3, hcz78_4, hcz78_5, hcz78_6, hcz78_7, hcz78_8, hcz78_9, hcz78_10⟩ := hc11 BK101.out
    obtain ⟨hfz78_0, hfz78_1, hfz78_2, hfz78_3, hfz78_4, hfz78_5, hfz78_6, hfz78_7, hfz78_8, hfz78_9, hfz78_10⟩ := hf11 BK101.out
    obtain ⟨hcz79_0, hcz79_1, hcz79_2, hcz79_3, hcz79_4, hcz79_5, hcz79_6, hcz79_7, hcz79_8, hcz79_9, hcz79_10⟩ := hc11 BK108.out
    obtain ⟨hfz79_0, hfz79_1, hfz79_2, hfz79_3, hfz79_4, hfz79_5, hfz79_6, hfz79_7, hfz79_8, hfz79_9, hfz79_10⟩ := hf11 BK108.out
    go_wp2
    rw [rounds_succ]
    have n0_ : Aside0 ((w77.setCell ⟨gb108, 9, none⟩ (.int .i64 (Int.tmod a0_9 10))).heap[gb101]? = some (.cells #[.int .i64 a0_0, .int .i64 a0_1, .int .i64 a0_2, .int .i64 a0_3, .int .i64 a0_4, .int .i64 a0_5, .int .i64 a0_6, .int .i64 a0_7, .int .i64 a0_8, .int .i64 a0_9, .int .i64 a0_10] 25 (0, 0))) := ⟨kp BK101.out⟩
    have n1_ : Aside0 ((w77.setCell ⟨gb108, 9, none⟩ (.int .i64 (Int.tmod a0_9 10))).heap[gb102]? = some (.cells #[.int .i64 0, .int .i64 0, .int .i64 0, .int .i64 0, .int .i64 0, .int .i64 0, .int .i64 0, .int .i64 0, .int .i64 0, .int .i64 0, .int .i64 0] 31 (0, 0))) := ⟨kp BK102.out⟩
    have n2_ : Aside0 ((w77.setCell ⟨gb108, 9, none⟩ (.int .i64 (Int.tmod a0_9 10))).heap[gb107]? = some (.cells #[.int .i64 x108000_2, .int .i64 x108001_2, .int .i64 x108002_2, .int .i64 t106] 54 (0, 0))) := ⟨kp BK107.out⟩
    have n3_ : Aside0 ((w77.setCell ⟨gb108, 9, none⟩ (.int .i64 (Int.tmod a0_9 10))).heap[gb108]? = some (.cells #[.int .i64 x108000_2, .int .i64 x108001_2, .int .i64 x108002_2, .int .i64 (Int.tmod a0_3 10), .int .i64 (Int.tmod a0_4 10), .int .i64 (Int.tmod a0_5 10), .int .i64 (Int.tmod a0_6 10), .int .i64 (Int.tmod a0_7 10), .int .i64 (Int.tmod a0_8 10), .int .i64 (Int.tmod a0_9 10), .int .i64 0] 31 (0, 0))) := ⟨kp (p11_9 (kp BK108.out))⟩
    have n4_ : Aside0 (Below w.heap.size w (w77.setCell ⟨gb108, 9, none⟩ (.int .i64 (Int.tmod a0_9 10)))) := ⟨bl HB.out⟩
    (try clear BK101)
    (try clear BK102)
    (try clear BK107)
    (try clear BK108)
    (try clear HB)
    generalize (w77.setCell ⟨gb108, 9, none⟩ (.int .i64 (Int.tmod a0_9 10))) = w80 at n0_ n1_ n2_ n3_ n4_ ⊢
    have BK101 := n0_
    have BK102 := n1_
    have BK107 := n2_
    have BK108 := n3_
    have HB := n4_
    clear n0_ n1_ n2_ n3_ n4_
    (try (rw [drewN_self w80]; generalize hq_ : World.drewN w80 _ = w80; replace BK101 := Aside0.mk (kq hq_ BK101.out); replace BK102 := Aside0.mk (kq hq_ BK102.out); replace BK107 := Aside0.mk (kq hq_ BK107.out); replace BK108 := Aside0.mk (kq hq_ BK108.out); replace HB := Aside0.mk (bq hq_ HB.out); clear hq_))
    obtain ⟨hcz81_0, hcz81_1, hcz81_2, hcz81_3, hcz81_4, hcz81_5, hcz81_6, hcz81_7, hcz81_8, hcz81_9, hcz81_10⟩ := hc11 BK101.out
    obtain ⟨hfz81_0, hfz81_1, hfz81_2, hfz81_3, hfz81_4, hfz81_5, hfz81_6, hfz81_7, hfz81_8, hfz81_9, hfz81_10⟩ := hf11 BK101.out
    obtain ⟨hcz82_0, hcz82_1, hcz82_2, hcz82_3, hcz82_4, hcz82_5, hcz82_6, hcz82_7, hcz82_8, hcz82_9, hcz82_10⟩ := hc11 BK108.out
    obtain ⟨hfz82_0, hfz82_1, hfz82_2, hfz82_3, hfz82_4, hfz82_5, hfz82_6, hfz82_7, hfz82_8, hfz82_9, hfz82_10⟩ := hf11 BK108.out
    obtain ⟨hcz83_0, hcz83_1, hcz83_2, hcz83_3, hcz83_4, hcz83_5, hcz83_6, hcz83_7, hcz83_8, hcz83_9, hcz83_10⟩ := hc11 BK102.out
    obtain ⟨hfz83_0, hfz83_1, hfz83_2, hfz83_3, hfz83_4, hfz83_5, hfz83_6, hfz83_7, hfz83_8, hfz83_9, hfz83_10⟩ := hf11 BK102.out
    go_wp2
    refine bodyPost_ret (results_cell_row rfl _ _ gb102 31 #[.int .i64 x108000_2, .int .i64 x108001_2, .int .i64 x108002_2, .int .i64 (Int.tmod a0_3 10), .int .i64 (Int.tmod a0_4 10), .int .i64 (Int.tmod a0_5 10), .int .i64 (Int.tmod a0_6 10), .int .i64 (Int.tmod a0_7 10), .int .i64 (Int.tmod a0_8 10), .int .i64 (Int.tmod a0_9 10), .int .i64 0] (0, 0) _ rfl (kp (p11_10 (kp (p11_9 (kp (p11_8 (kp (p11_7 (kp (p11_6 (kp (p11_5 (kp (p11_4 (kp (p11_3 (kp (p11_2 (kp (p11_1 (kp (p11_0 (kp BK102.out))))))))))))))))))))))) Tryd.underlying31 rfl (by kernel_rfl)) rfl ?_
    exact ⟨by first | rfl | (simp [errW_none, errW_some] <;> rfl) | (simp [*, errW_none, errW_some] <;> rfl), bl HB.out⟩

end Go.Proofs.YthfibffgmoblaaaDoor.PS

