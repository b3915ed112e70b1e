/- Printed by a program of this session (wip/tools/prt.py) out of the translation: plain functions, and that the calls come to just them. No conditions beyond those that stand in each theorem. -/
import Derived.Test.YthfibffgmoblaaaDoorWw
import Derived.Test.YthfibffgmoblaaaDoorSq
import Derived.Test.YthfibffgmoblaaaDoorProg
import Derived.Below
import Derived.Deep.Draws
import Derived.Deep.AppendLies
import Derived.Maps.AppendAt
import Derived.OwnWalk
import Derived.Laws.BytesArg
import Derived.Laws.MakeOwn
import Derived.Laws.OwnMore
import Derived.Deep.OwnRows
import Derived.Tactics
import Derived.Lib.ConvBytes
import Derived.Laws.Slices
import Derived.WalkKit
import Derived.KernelRfl
import Derived.RowKit3
import Derived.Deep.LoopGhost
import Derived.Deep.QuietTactic
import Derived.BigQuiet
import Derived.WideLaws
import Derived.Deep.DeepCutAuto
import Derived.Deep.CutBlock
import Derived.Deep.RegionHeld3
import Derived.Laws.Rows
import Derived.Lib.AppendStr
import Derived.ArgAppend
import Derived.Laws.IdiomCopy
import Derived.OrdersHeld
import Derived.Laws.BitsLemmas
import Derived.RowKit
import Derived.Test.YthfibffgmoblaaaDoorGlob
import Derived.Test.YthfibffgmoblaaaDoorPBx
namespace Go.Proofs.YthfibffgmoblaaaDoor.PC
open Go.Proofs.YthfibffgmoblaaaDoor.Sq Go.RowKit Go.Proofs.YthfibffgmoblaaaDoorW.PrintWords Go.Proofs.YthfibffgmoblaaaDoorW.PrintLast Go.Proofs.YthfibffgmoblaaaDoorW.PrintMore Go.Proofs.YthfibffgmoblaaaDoor.PB
attribute [local go_sem] max2_int min2_int max_two min_two max_three min_three max_four min_four   -- for this text's walks alone
set_option linter.unusedVariables false
set_option linter.unusedSimpArgs false

theorem arr_cell {w : World} {g : Nat} {e : Int → Value} (o z : Nat) (l : List Int) (j : Int) (h : ∀ i, i < l.length → w.cell? ⟨g, o + i * z, none⟩ = some (e (l.getD i 0))) (h0 : 0 ≤ j) (hj : j < (l.length : Int)) : w.cell? ⟨g, o + j.toNat * z, none⟩ = some (e (rd l j)) := h j.toNat (by omega)
theorem arr_cell1 {w : World} {g : Nat} {e : Int → Value} (l : List Int) (j : Int) (h : ∀ i, i < l.length → w.cell? ⟨g, i, none⟩ = some (e (l.getD i 0))) (h0 : 0 ≤ j) (hj : j < (l.length : Int)) : w.cell? ⟨g, j.toNat, none⟩ = some (e (rd l j)) := h j.toNat (by omega)
theorem arr_cell2 {w : World} {g : Nat} {e : Int → Value} (z : Nat) (l : List Int) (j : Int) (h : ∀ i, i < l.length → w.cell? ⟨g, i * z, none⟩ = some (e (l.getD i 0))) (h0 : 0 ≤ j) (hj : j < (l.length : Int)) : w.cell? ⟨g, j.toNat * z, none⟩ = some (e (rd l j)) := h j.toNat (by omega)


def errW : Option Int → Value
 | none => .nilIface
 | some c => .iface 0 (.int .i64 c)
theorem errW_none : errW none = .nilIface := rfl
theorem errW_some (c : Int) : errW (some c) = .iface 0 (.int .i64 c) := rfl

-- the values' own types

end Go.Proofs.YthfibffgmoblaaaDoor.PC

namespace Go.Proofs.YthfibffgmoblaaaDoor.PC
open Go.Proofs.YthfibffgmoblaaaDoor.Sq Go.RowKit Go.Proofs.YthfibffgmoblaaaDoorW.PrintWords Go.Proofs.YthfibffgmoblaaaDoorW.PrintLast Go.Proofs.YthfibffgmoblaaaDoorW.PrintMore Go.Proofs.YthfibffgmoblaaaDoor.PB
attribute [local go_sem] max2_int min2_int max_two min_two max_three min_three max_four min_four   -- for this text's walks alone
set_option linter.unusedVariables false
set_option linter.unusedSimpArgs false

/-! ### frac_loosen: function 60 -/
def frac_loosen.f (k : Nat) (a0 : Int) (a1 : Int) : Option (Int × Int × Int × Int) := (whole_Split.f k a0 2).bind fun bt103 => ((whole_Split.f k a1 2).bind fun bt105 => ((whole_Split.f k bt103.2 5).bind fun bt107 => ((whole_Split.f k bt105.2 5).bind fun bt109 => ((whole_Gcd.f k bt107.2 bt109.2).bind fun t111 => (if bt109.2 < 0 then (if (wrap64 (-t111)) = 0 then (none) else (some (wrap64 (Int.tdiv bt107.2 (wrap64 (-t111))), wrap64 (Int.tdiv bt109.2 (wrap64 (-t111))), wrap64 (bt103.1 - bt105.1), wrap64 (bt107.1 - bt109.1)))) else (if t111 = 0 then (none) else (some (wrap64 (Int.tdiv bt107.2 t111), wrap64 (Int.tdiv bt109.2 t111), wrap64 (bt103.1 - bt105.1), wrap64 (bt107.1 - bt109.1)))))))))
theorem frac_loosen.mono : ∀ a0 a1 k, LeO (frac_loosen.f k a0 a1) (frac_loosen.f (k + 1) a0 a1) := by
 intro a0 a1 k
 unfold frac_loosen.f
 repeat' first
   | (with_reducible exact whole_Gcd.mono _ _ _)
   | (with_reducible exact whole_Split.mono _ _ _)
   | (with_reducible exact LeO.refl _)
   | (with_reducible exact LeO.none _)
   | (with_reducible refine LeO.ite ?_ ?_)
   | (with_reducible refine LeO.bind ?_ (fun _ => ?_))
   | exact whole_Gcd.mono _ _ _
   | exact whole_Split.mono _ _ _
   | exact LeO.none _
   | refine LeO.ite ?_ ?_
   | refine LeO.bind ?_ (fun _ => ?_)
set_option maxHeartbeats 8000000 in
set_option maxRecDepth 100000 in
theorem frac_loosen.calls (k : Nat) (a0 : Int) (a1 : Int) (r1 : Int) (r2 : Int) (r3 : Int) (r4 : Int) (w : World) (hG : Glob [1] w) (h : frac_loosen.f k a0 a1 = some (r1, r2, r3, r4)) :
  Calls Tryd.prog 60 #[.int .i64 a0, .int .i64 a1] w fun e w' => e = .returned (.agg #[.int .i64 r1, .int .i64 r2, .int .i64 r3, .int .i64 r4]) ∧ Below w.heap.size w w' := by
 have hu100 := Tryd.underlying100
 have hu45 := Tryd.underlying45
 have hsd : ∀ (W : World) (n_ : Nat) (a_ : Addr) (v_ : Value), (W.drewN n_).setCell a_ v_ = (W.setCell a_ v_).drewN n_ := fun _ _ _ _ => rfl
 have hix45_0 : ∀ (y0_ y1_ : Value) (W : World), (Instr.index 45 (.agg #[y0_, y1_]) (.int .i64 0)).run Tryd.prog W = .ok (y0_) W := by intro y0_ y1_ W; first | kernel_rfl | rfl
 have hix45_1 : ∀ (y0_ y1_ : Value) (W : World), (Instr.index 45 (.agg #[y0_, y1_]) (.int .i64 1)).run Tryd.prog W = .ok (y1_) W := by intro y0_ y1_ W; first | kernel_rfl | rfl
 have HB := Aside0.mk (Below.refl w.heap.size w)
 have H : ((whole_Split.f k a0 2).bind fun bt103 => ((whole_Split.f k a1 2).bind fun bt105 => ((whole_Split.f k bt103.2 5).bind fun bt107 => ((whole_Split.f k bt105.2 5).bind fun bt109 => ((whole_Gcd.f k bt107.2 bt109.2).bind fun t111 => (if bt109.2 < 0 then (if (wrap64 (-t111)) = 0 then (none) else (some (wrap64 (Int.tdiv bt107.2 (wrap64 (-t111))), wrap64 (Int.tdiv bt109.2 (wrap64 (-t111))), wrap64 (bt103.1 - bt105.1), wrap64 (bt107.1 - bt109.1)))) else (if t111 = 0 then (none) else (some (wrap64 (Int.tdiv bt107.2 t111), wrap64 (Int.tdiv bt109.2 t111), wrap64 (bt103.1 - bt105.1), wrap64 (bt107.1 - bt109.1)))))))))) = some (r1, r2, r3, r4) := h
 clear h
 replace H := Option.bind_eq_some_iff.mp H
 obtain ⟨⟨t103, t104⟩, A30, H⟩ := H
 replace H : ((whole_Split.f k a1 2).bind fun bt105 => ((whole_Split.f k t104 5).bind fun bt107 => ((whole_Split.f k bt105.2 5).bind fun bt109 => ((whole_Gcd.f k bt107.2 bt109.2).bind fun t111 => (if bt109.2 < 0 then (if (wrap64 (-t111)) = 0 then (none) else (some (wrap64 (Int.tdiv bt107.2 (wrap64 (-t111))), wrap64 (Int.tdiv bt109.2 (wrap64 (-t111))), wrap64 (t103 - bt105.1), wrap64 (bt107.1 - bt109.1)))) else (if t111 = 0 then (none) else (some (wrap64 (Int.tdiv bt107.2 t111), wrap64 (Int.tdiv bt109.2 t111), wrap64 (t103 - bt105.1), wrap64 (bt107.1 - bt109.1))))))))) = some (r1, r2, r3, r4) := H
 have A3 := Aside0.mk A30
 clear A30
 replace H := Option.bind_eq_some_iff.mp H
 obtain ⟨⟨t105, t106⟩, A40, H⟩ := H
 replace H : ((whole_Split.f k t104 5).bind fun bt107 => ((whole_Split.f k t106 5).bind fun bt109 => ((whole_Gcd.f k bt107.2 bt109.2).bind fun t111 => (if bt109.2 < 0 then (if (wrap64 (-t111)) = 0 then (none) else (some (wrap64 (Int.tdiv bt107.2 (wrap64 (-t111))), wrap64 (Int.tdiv bt109.2 (wrap64 (-t111))), wrap64 (t103 - t105), wrap64 (bt107.1 - bt109.1)))) else (if t111 = 0 then (none) else (some (wrap64 (Int.tdiv bt107.2 t111), wrap64 (Int.tdiv bt109.2 t111), wrap64 (t103 - t105), wrap64 (bt107.1 - bt109.1)))))))) = some (r1, r2, r3, r4) := H
 have A4 := Aside0.mk A40
 clear A40
 replace H := Option.bind_eq_some_iff.mp H
 obtain ⟨⟨t107, t108⟩, A50, H⟩ := H
 replace H : ((whole_Split.f k t106 5).bind fun bt109 => ((whole_Gcd.f k t108 bt109.2).bind fun t111 => (if bt109.2 < 0 then (if (wrap64 (-t111)) = 0 then (none) else (some (wrap64 (Int.tdiv t108 (wrap64 (-t111))), wrap64 (Int.tdiv bt109.2 (wrap64 (-t111))), wrap64 (t103 - t105), wrap64 (t107 - bt109.1)))) else (if t111 = 0 then (none) else (some (wrap64 (Int.tdiv t108 t111), wrap64 (Int.tdiv bt109.2 t111), wrap64 (t103 - t105), wrap64 (t107 - bt109.1))))))) = some (r1, r2, r3, r4) := H
 have A5 := Aside0.mk A50
 clear A50
 replace H := Option.bind_eq_some_iff.mp H
 obtain ⟨⟨t109, t110⟩, A60, H⟩ := H
 replace H : ((whole_Gcd.f k t108 t110).bind fun t111 => (if t110 < 0 then (if (wrap64 (-t111)) = 0 then (none) else (some (wrap64 (Int.tdiv t108 (wrap64 (-t111))), wrap64 (Int.tdiv t110 (wrap64 (-t111))), wrap64 (t103 - t105), wrap64 (t107 - t109)))) else (if t111 = 0 then (none) else (some (wrap64 (Int.tdiv t108 t111), wrap64 (Int.tdiv t110 t111), wrap64 (t103 - t105), wrap64 (t107 - t109)))))) = some (r1, r2, r3, r4) := H
 have A6 := Aside0.mk A60
 clear A60
 replace H := Option.bind_eq_some_iff.mp H
 obtain ⟨t111, A70, H⟩ := H
 replace H : (if t110 < 0 then (if (wrap64 (-t111)) = 0 then (none) else (some (wrap64 (Int.tdiv t108 (wrap64 (-t111))), wrap64 (Int.tdiv t110 (wrap64 (-t111))), wrap64 (t103 - t105), wrap64 (t107 - t109)))) else (if t111 = 0 then (none) else (some (wrap64 (Int.tdiv t108 t111), wrap64 (Int.tdiv t110 t111), wrap64 (t103 - t105), wrap64 (t107 - t109))))) = some (r1, r2, r3, r4) := H
 have A7 := Aside0.mk A70
 clear A70
 by_cases c8 : t110 < 0
 ·rw [if_pos c8] at H
  have c8b0 : decide (t110 < 0) = true := decide_eq_true c8
  clear c8
  by_cases c9 : (wrap64 (-t111)) = 0
  ·rw [if_pos c9] at H
   exact absurd H (by simp)
  ·rw [if_neg c9] at H
   have c9b0 : ((wrap64 (-t111)) == 0) = false := beq_eq_false_iff_ne.mpr c9
   have c9b1 : ((wrap64 (-t111)) != 0) = true := bne_iff_ne.mpr c9
   simp only [Option.some.injEq, Prod.mk.injEq] at H
   obtain ⟨rfl, rfl, rfl, rfl⟩ := H
   go_enter Tryd.func60, Tryd.ntmps60
   go_wp2_with (first | ((with_reducible refine gate_dst (N := 4) rfl ?_); refine box_event ?hg (N := 4) ?hd (cs := #[.int .i64 0, .int .i64 0, .int .i64 0, .int .i64 0]) (t := 100) ?hr ?_; (case hd => rfl); (case hg => rfl); (case hr => first | (go_simp; done) | (go_simp; rfl)); intro gb101 hg w10 hbox hb; have n0_ := sb HB hb; have n1_ := Aside0.mk (hbox); have n2_ := Aside0.mk ((by rw [hg]; exact (below_size (bl HB.out)) : w.heap.size ≤ gb101)); have n3_ := Aside0.mk ((by rw [hg]; exact (below_size (bl HB.out)) : w.heap.size ≤ gb101)); clear HB; have HB := n0_; have BK101 := n1_; have GW101 := n2_; have GE101 := n3_; clear n0_ n1_ n2_ n3_; clear hb hbox hg) | ((with_reducible refine gate_dst (N := 5) rfl ?_); refine box_event ?hg (N := 5) ?hd (cs := #[.int .i64 0, .int .i64 0, .int .i64 0, .int .i64 0]) (t := 100) ?hr ?_; (case hd => rfl); (case hg => rfl); (case hr => first | (go_simp; done) | (go_simp; rfl)); intro gb102 hg w11 hbox hb; have n0_ := kb BK101 hb; have n1_ := sb HB hb; have n2_ := Aside0.mk (hbox); have n3_ := Aside0.mk ((by rw [hg]; exact (below_size (bl HB.out)) : w.heap.size ≤ gb102)); have n4_ := Aside0.mk ((by rw [hg]; exact (below_size (bl HB.out)) : w.heap.size ≤ gb102)); have n5_ := Aside0.mk ((by rw [hg]; exact Nat.ne_of_lt (blk_lt (kp BK101.out)) : gb101 ≠ gb102)); have n6_ := Aside0.mk ((by rw [hg]; exact Nat.ne_of_gt (blk_lt (kp BK101.out)) : gb102 ≠ gb101)); clear BK101; clear HB; have BK101 := n0_; have HB := n1_; have BK102 := n2_; have GW102 := n3_; have GE102 := n4_; have NB101_102 := n5_; have NB102_101 := n6_; clear n0_ n1_ n2_ n3_ n4_ n5_ n6_; clear hb hbox hg; have hnb12 := NB102_101.out; have hnc12 := NB101_102.out; obtain ⟨hcz13_0, hcz13_1, hcz13_2, hcz13_3⟩ := hc4 BK102.out; obtain ⟨hfz13_0, hfz13_1, hfz13_2, hfz13_3⟩ := hf4 BK102.out; obtain ⟨tvg14, hvg14⟩ := hG.v1 rfl; have hlg14 := blk_lt hvg14; have hng14_0 : gb101 ≠ 1 := (by have h_ := GE101.out; omega); have hng14_1 : gb102 ≠ 1 := (by have h_ := GE102.out; omega); have hmg14_0 : 1 ≠ gb101 := fun h_ => hng14_0 h_.symm; have hmg14_1 : 1 ≠ gb102 := fun h_ => hng14_1 h_.symm; clear hlg14 hvg14; clear tvg14; obtain ⟨tvg14, hvg14⟩ := Flat.FlatVar.below (hG.v1 rfl) HB.out; have hcg14_0 : w11.cell? ⟨1, 0, none⟩ = some (.int .i64 2) := (blk_cell hvg14 0).trans rfl; have hcg14_1 : w11.cell? ⟨1, 1, none⟩ = some (.int .i64 5) := (blk_cell hvg14 1).trans rfl; clear hvg14))
   refine wp_loop_rounds 41 ?_
   rw [rounds_succ]
   obtain ⟨hcz15_0, hcz15_1, hcz15_2, hcz15_3⟩ := hc4 BK102.out
   obtain ⟨hfz15_0, hfz15_1, hfz15_2, hfz15_3⟩ := hf4 BK102.out
   go_wp2_with (first | (go_at_call 84; (with_reducible refine (whole_Split.calls k a0 2 t103 t104 _ A3.out).mono ?_); rintro e w' ⟨rfl, ⟨nd, rfl⟩⟩) | (go_at_call 84; (with_reducible refine (whole_Split.calls k a1 2 t105 t106 _ A4.out).mono ?_); rintro e w' ⟨rfl, ⟨nd, rfl⟩⟩))
   rw [rounds_succ]
   have n0_ : Aside0 ((((((((w11.setCell ⟨gb102, 0, none⟩ (.int .i64 a0)).setCell ⟨gb102, 1, none⟩ (.int .i64 a1)).setCell ⟨gb102, 2, none⟩ (.int .i64 0)).setCell ⟨gb102, 3, none⟩ (.int .i64 0)).setCell ⟨gb102, 0, none⟩ (.int .i64 t104)).setCell ⟨gb102, 1, none⟩ (.int .i64 t106)).setCell ⟨gb102, 2, none⟩ (.int .i64 (wrap64 (t103 - t105)))).heap[gb101]? = some (.cells #[.int .i64 0, .int .i64 0, .int .i64 0, .int .i64 0] 100 (0, 0))) := ⟨kp BK101.out⟩
   have n1_ : Aside0 ((((((((w11.setCell ⟨gb102, 0, none⟩ (.int .i64 a0)).setCell ⟨gb102, 1, none⟩ (.int .i64 a1)).setCell ⟨gb102, 2, none⟩ (.int .i64 0)).setCell ⟨gb102, 3, none⟩ (.int .i64 0)).setCell ⟨gb102, 0, none⟩ (.int .i64 t104)).setCell ⟨gb102, 1, none⟩ (.int .i64 t106)).setCell ⟨gb102, 2, none⟩ (.int .i64 (wrap64 (t103 - t105)))).heap[gb102]? = some (.cells #[.int .i64 t104, .int .i64 t106, .int .i64 (wrap64 (t103 - t105)), .int .i64 0] 100 (0, 0))) := ⟨kp (p4_2 (kp (p4_1 (kp (p4_0 (kp (p4_3 (kp (p4_2 (kp (p4_1 (kp (p4_0 (kp BK102.out))))))))))))))⟩
   have n2_ : Aside0 (Below w.heap.size w (((((((w11.setCell ⟨gb102, 0, none⟩ (.int .i64 a0)).setCell ⟨gb102, 1, none⟩ (.int .i64 a1)).setCell ⟨gb102, 2, none⟩ (.int .i64 0)).setCell ⟨gb102, 3, none⟩ (.int .i64 0)).setCell ⟨gb102, 0, none⟩ (.int .i64 t104)).setCell ⟨gb102, 1, none⟩ (.int .i64 t106)).setCell ⟨gb102, 2, none⟩ (.int .i64 (wrap64 (t103 - t105))))) := ⟨bl HB.out⟩
   (try clear BK101)
   (try clear BK102)
   (try clear HB)
   generalize (((((((w11.setCell ⟨gb102, 0, none⟩ (.int .i64 a0)).setCell ⟨gb102, 1, none⟩ (.int .i64 a1)).setCell ⟨gb102, 2, none⟩ (.int .i64 0)).setCell ⟨gb102, 3, none⟩ (.int .i64 0)).setCell ⟨gb102, 0, none⟩ (.int .i64 t104)).setCell ⟨gb102, 1, none⟩ (.int .i64 t106)).setCell ⟨gb102, 2, none⟩ (.int .i64 (wrap64 (t103 - t105)))) = w16 at n0_ n1_ n2_ ⊢
   have BK101 := n0_
   have BK102 := n1_
   have HB := n2_
   clear n0_ n1_ n2_
   (try (rw [drewN_self w16]; generalize hq_ : World.drewN w16 _ = w16; replace BK101 := Aside0.mk (kq hq_ BK101.out); replace BK102 := Aside0.mk (kq hq_ BK102.out); replace HB := Aside0.mk (bq hq_ HB.out); clear hq_))
   obtain ⟨hcz17_0, hcz17_1, hcz17_2, hcz17_3⟩ := hc4 BK102.out
   obtain ⟨hfz17_0, hfz17_1, hfz17_2, hfz17_3⟩ := hf4 BK102.out
   go_wp2_with (first | (go_at_call 84; (with_reducible refine (whole_Split.calls k t104 5 t107 t108 _ A5.out).mono ?_); rintro e w' ⟨rfl, ⟨nd, rfl⟩⟩; (try (rw [drewN_self w16]; generalize hq_ : World.drewN w16 _ = w16; replace BK101 := Aside0.mk (kq hq_ BK101.out); replace BK102 := Aside0.mk (kq hq_ BK102.out); replace HB := Aside0.mk (bq hq_ HB.out); clear hq_)); obtain ⟨hcz18_0, hcz18_1, hcz18_2, hcz18_3⟩ := hc4 BK102.out; obtain ⟨hfz18_0, hfz18_1, hfz18_2, hfz18_3⟩ := hf4 BK102.out) | (go_at_call 84; (with_reducible refine (whole_Split.calls k t106 5 t109 t110 _ A6.out).mono ?_); rintro e w' ⟨rfl, ⟨nd, rfl⟩⟩; (try (rw [drewN_self w16]; generalize hq_ : World.drewN w16 _ = w16; replace BK101 := Aside0.mk (kq hq_ BK101.out); replace BK102 := Aside0.mk (kq hq_ BK102.out); replace HB := Aside0.mk (bq hq_ HB.out); clear hq_)); obtain ⟨hcz19_0, hcz19_1, hcz19_2, hcz19_3⟩ := hc4 BK102.out; obtain ⟨hfz19_0, hfz19_1, hfz19_2, hfz19_3⟩ := hf4 BK102.out))
   rw [rounds_succ]
   have n0_ : Aside0 ((((w16.setCell ⟨gb102, 0, none⟩ (.int .i64 t108)).setCell ⟨gb102, 1, none⟩ (.int .i64 t110)).setCell ⟨gb102, 3, none⟩ (.int .i64 (wrap64 (t107 - t109)))).heap[gb101]? = some (.cells #[.int .i64 0, .int .i64 0, .int .i64 0, .int .i64 0] 100 (0, 0))) := ⟨kp BK101.out⟩
   have n1_ : Aside0 ((((w16.setCell ⟨gb102, 0, none⟩ (.int .i64 t108)).setCell ⟨gb102, 1, none⟩ (.int .i64 t110)).setCell ⟨gb102, 3, none⟩ (.int .i64 (wrap64 (t107 - t109)))).heap[gb102]? = some (.cells #[.int .i64 t108, .int .i64 t110, .int .i64 (wrap64 (t103 - t105)), .int .i64 (wrap64 (t107 - t109))] 100 (0, 0))) := ⟨kp (p4_3 (kp (p4_1 (kp (p4_0 (kp BK102.out))))))⟩
   have n2_ : Aside0 (Below w.heap.size w (((w16.setCell ⟨gb102, 0, none⟩ (.int .i64 t108)).setCell ⟨gb102, 1, none⟩ (.int .i64 t110)).setCell ⟨gb102, 3, none⟩ (.int .i64 (wrap64 (t107 - t109))))) := ⟨bl HB.out⟩
   (try clear BK101)
   (try clear BK102)
   (try clear HB)
   generalize (((w16.setCell ⟨gb102, 0, none⟩ (.int .i64 t108)).setCell ⟨gb102, 1, none⟩ (.int .i64 t110)).setCell ⟨gb102, 3, none⟩ (.int .i64 (wrap64 (t107 - t109)))) = w20 at n0_ n1_ n2_ ⊢
   have BK101 := n0_
   have BK102 := n1_
   have HB := n2_
   clear n0_ n1_ n2_
   (try (rw [drewN_self w20]; generalize hq_ : World.drewN w20 _ = w20; replace BK101 := Aside0.mk (kq hq_ BK101.out); replace BK102 := Aside0.mk (kq hq_ BK102.out); replace HB := Aside0.mk (bq hq_ HB.out); clear hq_))
   obtain ⟨hcz21_0, hcz21_1, hcz21_2, hcz21_3⟩ := hc4 BK102.out
   obtain ⟨hfz21_0, hfz21_1, hfz21_2, hfz21_3⟩ := hf4 BK102.out
   go_wp2_with (first | (go_at_call 77; (with_reducible refine (whole_Gcd.calls k t108 t110 t111 _ A7.out).mono ?_); rintro e w22 ⟨rfl, hb⟩; replace BK101 := kb BK101 hb; replace BK102 := kb BK102 hb; replace HB := sb HB hb; (try clear hb); (try clear hb2); (try clear hk); (try clear hi); obtain ⟨hcz23_0, hcz23_1, hcz23_2, hcz23_3⟩ := hc4 BK102.out; obtain ⟨hfz23_0, hfz23_1, hfz23_2, hfz23_3⟩ := hf4 BK102.out; obtain ⟨hcz24_0, hcz24_1, hcz24_2, hcz24_3⟩ := hc4 BK101.out; obtain ⟨hfz24_0, hfz24_1, hfz24_2, hfz24_3⟩ := hf4 BK101.out))
   refine bodyPost_ret (results_cell_row rfl _ _ gb101 100 #[.int .i64 (wrap64 (Int.tdiv t108 (wrap64 (-t111)))), .int .i64 (wrap64 (Int.tdiv t110 (wrap64 (-t111)))), .int .i64 (wrap64 (t103 - t105)), .int .i64 (wrap64 (t107 - t109))] (0, 0) _ rfl (kp (p4_3 (kp (p4_2 (kp (p4_1 (kp (p4_0 (kp BK101.out))))))))) Tryd.underlying100 rfl (by kernel_rfl)) rfl ?_
   exact ⟨by first | rfl | (simp [errW_none, errW_some] <;> rfl) | (simp [*, errW_none, errW_some] <;> rfl), bl HB.out⟩
 ·rw [if_neg c8] at H
  have c8b0 : decide (t110 < 0) = false := decide_eq_false c8
  clear c8
  by_cases c25 : t111 = 0
  ·rw [if_pos c25] at H
   exact absurd H (by simp)
  ·rw [if_neg c25] at H
   have c25b0 : (t111 == 0) = false := beq_eq_false_iff_ne.mpr c25
   have c25b1 : (t111 != 0) = true := bne_iff_ne.mpr c25
   simp only [Option.some.injEq, Prod.mk.injEq] at H
   obtain ⟨rfl, rfl, rfl, rfl⟩ := H
   go_enter Tryd.func60, Tryd.ntmps60
   go_wp2_with (first | ((with_reducible refine gate_dst (N := 4) rfl ?_); refine box_event ?hg (N := 4) ?hd (cs := #[.int .i64 0, .int .i64 0, .int .i64 0, .int .i64 0]) (t := 100) ?hr ?_; (case hd => rfl); (case hg => rfl); (case hr => first | (go_simp; done) | (go_simp; rfl)); intro gb101 hg w26 hbox hb; have n0_ := sb HB hb; have n1_ := Aside0.mk (hbox); have n2_ := Aside0.mk ((by rw [hg]; exact (below_size (bl HB.out)) : w.heap.size ≤ gb101)); have n3_ := Aside0.mk ((by rw [hg]; exact (below_size (bl HB.out)) : w.heap.size ≤ gb101)); clear HB; have HB := n0_; have BK101 := n1_; have GW101 := n2_; have GE101 := n3_; clear n0_ n1_ n2_ n3_; clear hb hbox hg) | ((with_reducible refine gate_dst (N := 5) rfl ?_); refine box_event ?hg (N := 5) ?hd (cs := #[.int .i64 0, .int .i64 0, .int .i64 0, .int .i64 0]) (t := 100) ?hr ?_; (case hd => rfl); (case hg => rfl); (case hr => first | (go_simp; done) | (go_simp; rfl)); intro gb102 hg w27 hbox hb; have n0_ := kb BK101 hb; have n1_ := sb HB hb; have n2_ := Aside0.mk (hbox); have n3_ := Aside0.mk ((by rw [hg]; exact (below_size (bl HB.out)) : w.heap.size ≤ gb102)); have n4_ := Aside0.mk ((by rw [hg]; exact (below_size (bl HB.out)) : w.heap.size ≤ gb102)); have n5_ := Aside0.mk ((by rw [hg]; exact Nat.ne_of_lt (blk_lt (kp BK101.out)) : gb101 ≠ gb102)); have n6_ := Aside0.mk ((by rw [hg]; exact Nat.ne_of_gt (blk_lt (kp BK101.out)) : gb102 ≠ gb101)); clear BK101; clear HB; have BK101 := n0_; have HB := n1_; have BK102 := n2_; have GW102 := n3_; have GE102 := n4_; have NB101_102 := n5_; have NB102_101 := n6_; clear n0_ n1_ n2_ n3_ n4_ n5_ n6_; clear hb hbox hg; have hnb28 := NB102_101.out; have hnc28 := NB101_102.out; obtain ⟨hcz29_0, hcz29_1, hcz29_2, hcz29_3⟩ := hc4 BK102.out; obtain ⟨hfz29_0, hfz29_1, hfz29_2, hfz29_3⟩ := hf4 BK102.out; obtain ⟨tvg30, hvg30⟩ := hG.v1 rfl; have hlg30 := blk_lt hvg30; have hng30_0 : gb101 ≠ 1 := (by have h_ := GE101.out; omega); have hng30_1 : gb102 ≠ 1 := (by have h_ := GE102.out; omega); have hmg30_0 : 1 ≠ gb101 := fun h_ => hng30_0 h_.symm; have hmg30_1 : 1 ≠ gb102 := fun h_ => hng30_1 h_.symm; clear hlg30 hvg30; clear tvg30; obtain ⟨tvg30, hvg30⟩ := Flat.FlatVar.below (hG.v1 rfl) HB.out; have hcg30_0 : w27.cell? ⟨1, 0, none⟩ = some (.int .i64 2) := (blk_cell hvg30 0).trans rfl; have hcg30_1 : w27.cell? ⟨1, 1, none⟩ = some (.int .i64 5) := (blk_cell hvg30 1).trans rfl; clear hvg30))
   refine wp_loop_rounds 41 ?_
   rw [rounds_succ]
   obtain ⟨hcz31_0, hcz31_1, hcz31_2, hcz31_3⟩ := hc4 BK102.out
   obtain ⟨hfz31_0, hfz31_1, hfz31_2, hfz31_3⟩ := hf4 BK102.out
   go_wp2_with (first | (go_at_call 84; (with_reducible refine (whole_Split.calls k a0 2 t103 t104 _ A3.out).mono ?_); rintro e w' ⟨rfl, ⟨nd, rfl⟩⟩) | (go_at_call 84; (with_reducible refine (whole_Split.calls k a1 2 t105 t106 _ A4.out).mono ?_); rintro e w' ⟨rfl, ⟨nd, rfl⟩⟩))
   rw [rounds_succ]
   have n0_ : Aside0 ((((((((w27.setCell ⟨gb102, 0, none⟩ (.int .i64 a0)).setCell ⟨gb102, 1, none⟩ (.int .i64 a1)).setCell ⟨gb102, 2, none⟩ (.int .i64 0)).setCell ⟨gb102, 3, none⟩ (.int .i64 0)).setCell ⟨gb102, 0, none⟩ (.int .i64 t104)).setCell ⟨gb102, 1, none⟩ (.int .i64 t106)).setCell ⟨gb102, 2, none⟩ (.int .i64 (wrap64 (t103 - t105)))).heap[gb101]? = some (.cells #[.int .i64 0, .int .i64 0, .int .i64 0, .int .i64 0] 100 (0, 0))) := ⟨kp BK101.out⟩
   have n1_ : Aside0 ((((((((w27.setCell ⟨gb102, 0, none⟩ (.int .i64 a0)).setCell ⟨gb102, 1, none⟩ (.int .i64 a1)).setCell ⟨gb102, 2, none⟩ (.int .i64 0)).setCell ⟨gb102, 3, none⟩ (.int .i64 0)).setCell ⟨gb102, 0, none⟩ (.int .i64 t104)).setCell ⟨gb102, 1, none⟩ (.int .i64 t106)).setCell ⟨gb102, 2, none⟩ (.int .i64 (wrap64 (t103 - t105)))).heap[gb102]? = some (.cells #[.int .i64 t104, .int .i64 t106, .int .i64 (wrap64 (t103 - t105)), .int .i64 0] 100 (0, 0))) := ⟨kp (p4_2 (kp (p4_1 (kp (p4_0 (kp (p4_3 (kp (p4_2 (kp (p4_1 (kp (p4_0 (kp BK102.out))))))))))))))⟩
   have n2_ : Aside0 (Below w.heap.size w (((((((w27.setCell ⟨gb102, 0, none⟩ (.int .i64 a0)).setCell ⟨gb102, 1, none⟩ (.int .i64 a1)).setCell ⟨gb102, 2, none⟩ (.int .i64 0)).setCell ⟨gb102, 3, none⟩ (.int .i64 0)).setCell ⟨gb102, 0, none⟩ (.int .i64 t104)).setCell ⟨gb102, 1, none⟩ (.int .i64 t106)).setCell ⟨gb102, 2, none⟩ (.int .i64 (wrap64 (t103 - t105))))) := ⟨bl HB.out⟩
   (try clear BK101)
   (try clear BK102)
   (try clear HB)
   generalize (((((((w27.setCell ⟨gb102, 0, none⟩ (.int .i64 a0)).setCell ⟨gb102, 1, none⟩ (.int .i64 a1)).setCell ⟨gb102, 2, none⟩ (.int .i64 0)).setCell ⟨gb102, 3, none⟩ (.int .i64 0)).setCell ⟨gb102, 0, none⟩ (.int .i64 t104)).setCell ⟨gb102, 1, none⟩ (.int .i64 t106)).setCell ⟨gb102, 2, none⟩ (.int .i64 (wrap64 (t103 - t105)))) = w32 at n0_ n1_ n2_ ⊢
   have BK101 := n0_
   have BK102 := n1_
   have HB := n2_
   clear n0_ n1_ n2_
   (try (rw [drewN_self w32]; generalize hq_ : World.drewN w32 _ = w32; replace BK101 := Aside0.mk (kq hq_ BK101.out); replace BK102 := Aside0.mk (kq hq_ BK102.out); replace HB := Aside0.mk (bq hq_ HB.out); clear hq_))
   obtain ⟨hcz33_0, hcz33_1, hcz33_2, hcz33_3⟩ := hc4 BK102.out
   obtain ⟨hfz33_0, hfz33_1, hfz33_2, hfz33_3⟩ := hf4 BK102.out
   go_wp2_with (first | (go_at_call 84; (with_reducible refine (whole_Split.calls k t104 5 t107 t108 _ A5.out).mono ?_); rintro e w' ⟨rfl, ⟨nd, rfl⟩⟩; (try (rw [drewN_self w32]; generalize hq_ : World.drewN w32 _ = w32; replace BK101 := Aside0.mk (kq hq_ BK101.out); replace BK102 := Aside0.mk (kq hq_ BK102.out); replace HB := Aside0.mk (bq hq_ HB.out); clear hq_)); obtain ⟨hcz34_0, hcz34_1, hcz34_2, hcz34_3⟩ := hc4 BK102.out; obtain ⟨hfz34_0, hfz34_1, hfz34_2, hfz34_3⟩ := hf4 BK102.out) | (go_at_call 84; (with_reducible refine (whole_Split.calls k t106 5 t109 t110 _ A6.out).mono ?_); rintro e w' ⟨rfl, ⟨nd, rfl⟩⟩; (try (rw [drewN_self w32]; generalize hq_ : World.drewN w32 _ = w32; replace BK101 := Aside0.mk (kq hq_ BK101.out); replace BK102 := Aside0.mk (kq hq_ BK102.out); replace HB := Aside0.mk (bq hq_ HB.out); clear hq_)); obtain ⟨hcz35_0, hcz35_1, hcz35_2, hcz35_3⟩ := hc4 BK102.out; obtain ⟨hfz35_0, hfz35_1, hfz35_2, hfz35_3⟩ := hf4 BK102.out))
   rw [rounds_succ]
   have n0_ : Aside0 ((((w32.setCell ⟨gb102, 0, none⟩ (.int .i64 t108)).setCell ⟨gb102, 1, none⟩ (.int .i64 t110)).setCell ⟨gb102, 3, none⟩ (.int .i64 (wrap64 (t107 - t109)))).heap[gb101]? = some (.cells #[.int .i64 0, .int .i64 0, .int .i64 0, .int .i64 0] 100 (0, 0))) := ⟨kp BK101.out⟩
   have n1_ : Aside0 ((((w32.setCell ⟨gb102, 0, none⟩ (.int .i64 t108)).setCell ⟨gb102, 1, none⟩ (.int .i64 t110)).setCell ⟨gb102, 3, none⟩ (.int .i64 (wrap64 (t107 - t109)))).heap[gb102]? = some (.cells #[.int .i64 t108, .int .i64 t110, .int .i64 (wrap64 (t103 - t105)), .int .i64 (wrap64 (t107 - t109))] 100 (0, 0))) := ⟨kp (p4_3 (kp (p4_1 (kp (p4_0 (kp BK102.out))))))⟩
   have n2_ : Aside0 (Below w.heap.size w (((w32.setCell ⟨gb102, 0, none⟩ (.int .i64 t108)).setCell ⟨gb102, 1, none⟩ (.int .i64 t110)).setCell ⟨gb102, 3, none⟩ (.int .i64 (wrap64 (t107 - t109))))) := ⟨bl HB.out⟩
   (try clear BK101)
   (try clear BK102)
   (try clear HB)
   generalize (((w32.setCell ⟨gb102, 0, none⟩ (.int .i64 t108)).setCell ⟨gb102, 1, none⟩ (.int .i64 t110)).setCell ⟨gb102, 3, none⟩ (.int .i64 (wrap64 (t107 - t109)))) = w36 at n0_ n1_ n2_ ⊢
   have BK101 := n0_
   have BK102 := n1_
   have HB := n2_
   clear n0_ n1_ n2_
   (try (rw [drewN_self w36]; generalize hq_ : World.drewN w36 _ = w36; replace BK101 := Aside0.mk (kq hq_ BK101.out); replace BK102 := Aside0.mk (kq hq_ BK102.out); replace HB := Aside0.mk (bq hq_ HB.out); clear hq_))
   obtain ⟨hcz37_0, hcz37_1, hcz37_2, hcz37_3⟩ := hc4 BK102.out
   obtain ⟨hfz37_0, hfz37_1, hfz37_2, hfz37_3⟩ := hf4 BK102.out
   go_wp2_with (first | (go_at_call 77; (with_reducible refine (whole_Gcd.calls k t108 t110 t111 _ A7.out).mono ?_); rintro e w38 ⟨rfl, hb⟩; replace BK101 := kb BK101 hb; replace BK102 := kb BK102 hb; replace HB := sb HB hb; (try clear hb); (try clear hb2); (try clear hk); (try clear hi); obtain ⟨hcz39_0, hcz39_1, hcz39_2, hcz39_3⟩ := hc4 BK102.out; obtain ⟨hfz39_0, hfz39_1, hfz39_2, hfz39_3⟩ := hf4 BK102.out; obtain ⟨hcz40_0, hcz40_1, hcz40_2, hcz40_3⟩ := hc4 BK101.out; obtain ⟨hfz40_0, hfz40_1, hfz40_2, hfz40_3⟩ := hf4 BK101.out))
   refine bodyPost_ret (results_cell_row rfl _ _ gb101 100 #[.int .i64 (wrap64 (Int.tdiv t108 t111)), .int .i64 (wrap64 (Int.tdiv t110 t111)), .int .i64 (wrap64 (t103 - t105)), .int .i64 (wrap64 (t107 - t109))] (0, 0) _ rfl (kp (p4_3 (kp (p4_2 (kp (p4_1 (kp (p4_0 (kp BK101.out))))))))) Tryd.underlying100 rfl (by kernel_rfl)) rfl ?_
   exact ⟨by first | rfl | (simp [errW_none, errW_some] <;> rfl) | (simp [*, errW_none, errW_some] <;> rfl), bl HB.out⟩

/-! ### frac_loose_times: function 67 -/
def frac_loose_times.f (k : Nat) (a0_0 : Int) (a0_1 : Int) (a0_2 : Int) (a0_3 : Int) (a1_0 : Int) (a1_1 : Int) (a1_2 : Int) (a1_3 : Int) : Option (Int × Int × Int × Int × Bool) := (whole_Gcd.f k a0_0 a1_1).bind fun t115 => ((whole_Gcd.f k a1_0 a0_1).bind fun t116 => (if t115 = 0 then (none) else (if t116 = 0 then (none) else ((whole_Mul.f k (wrap64 (Int.tdiv a0_0 t115)) (wrap64 (Int.tdiv a1_0 t116))).bind fun bt117 => ((whole_Mul.f k (wrap64 (Int.tdiv a0_1 t116)) (wrap64 (Int.tdiv a1_1 t115))).bind fun bt119 => (if bt117.2 = true then (some (bt117.1, bt119.1, wrap64 (a0_2 + a1_2), wrap64 (a0_3 + a1_3), bt119.2)) else (some (bt117.1, bt119.1, wrap64 (a0_2 + a1_2), wrap64 (a0_3 + a1_3), false))))))))
theorem frac_loose_times.mono : ∀ a0 a1 a2 a3 a4 a5 a6 a7 k, LeO (frac_loose_times.f k a0 a1 a2 a3 a4 a5 a6 a7) (frac_loose_times.f (k + 1) a0 a1 a2 a3 a4 a5 a6 a7) := by
 intro a0 a1 a2 a3 a4 a5 a6 a7 k
 unfold frac_loose_times.f
 repeat' first
   | (with_reducible exact whole_Gcd.mono _ _ _)
   | (with_reducible exact whole_Mul.mono _ _ _)
   | (with_reducible exact LeO.refl _)
   | (with_reducible exact LeO.none _)
   | (with_reducible refine LeO.ite ?_ ?_)
   | (with_reducible refine LeO.bind ?_ (fun _ => ?_))
   | exact whole_Gcd.mono _ _ _
   | exact whole_Mul.mono _ _ _
   | exact LeO.none _
   | refine LeO.ite ?_ ?_
   | refine LeO.bind ?_ (fun _ => ?_)
def frac_loose_times.T1 : Bool × List (List Nat × List Nat) := (true, [([], []), ([0], [0]), ([], []), ([2], [2]), ([1, 3], [1, 3]), ([], []), ([5], [5]), ([], []), ([7], [7]), ([6, 8, 4], [6, 8]), ([4, 9, 0, 1, 2, 3, 4], [4]), ([9, 10, 0, 1, 2, 3, 4, 5, 6, 7, 8, 9, 10], [9])])
def frac_loose_times.B1 : List Nat := [0, 1, 0, 4, 15, 0, 32, 0, 128, 511, 1023, 2047]
theorem frac_loose_times.tab1 : rtab .any (opsOf Tryd.f67 1) = frac_loose_times.T1 := by kernel_rfl
theorem frac_loose_times.bits1 : waitsOk frac_loose_times.T1.2 frac_loose_times.B1 = true := by kernel_rfl
def frac_loose_times.T2 : Bool × List (List Nat × List Nat) := (true, [([], []), ([0], [0]), ([], []), ([1, 2], [1, 2]), ([], []), ([4], [4]), ([], []), ([5, 6], [5, 6]), ([3, 7], [3, 7]), ([8], [8]), ([9], [9]), ([9], [9]), ([10, 8, 0, 1, 2, 3, 4, 5, 6, 7, 8, 9, 10], [10]), ([11, 12, 0, 1, 2, 3, 4, 5, 6, 7, 8, 9, 10, 11, 12], [11])])
def frac_loose_times.B2 : List Nat := [0, 1, 0, 7, 0, 16, 0, 112, 255, 511, 1023, 1023, 2047, 8191]
theorem frac_loose_times.tab2 : rtab .any (opsOf Tryd.f67 2) = frac_loose_times.T2 := by kernel_rfl
theorem frac_loose_times.bits2 : waitsOk frac_loose_times.T2.2 frac_loose_times.B2 = true := by kernel_rfl
def frac_loose_times.T3 : Bool × List (List Nat × List Nat) := (true, [([], []), ([0], [0]), ([], []), ([1, 2], [1, 2]), ([], []), ([4], [4]), ([], []), ([5, 6], [5, 6]), ([3, 7], [3, 7]), ([8], [8]), ([9], [9]), ([9], [9]), ([10, 8, 0, 1, 2, 3, 4, 5, 6, 7, 8, 9, 10], [10]), ([11, 12, 0, 1, 2, 3, 4, 5, 6, 7, 8, 9, 10, 11, 12], [11])])
def frac_loose_times.B3 : List Nat := [0, 1, 0, 7, 0, 16, 0, 112, 255, 511, 1023, 1023, 2047, 8191]
theorem frac_loose_times.tab3 : rtab .any (opsOf Tryd.f67 3) = frac_loose_times.T3 := by kernel_rfl
theorem frac_loose_times.bits3 : waitsOk frac_loose_times.T3.2 frac_loose_times.B3 = true := by kernel_rfl
def frac_loose_times.T8 : Bool × List (List Nat × List Nat) := (true, [([], []), ([], []), ([], []), ([2, 1], [1, 2]), ([3], [3]), ([], []), ([], []), ([6, 5], [5, 6]), ([7], [7]), ([4, 8], [4, 8]), ([], []), ([10, 0, 0, 1, 2, 3, 4, 5, 6, 7, 8, 9], [0, 10]), ([11, 9, 0, 1, 2, 3, 4, 5, 6, 7, 8, 9], [9, 11])])
def frac_loose_times.B8 : List Nat := [0, 0, 0, 6, 14, 0, 0, 96, 224, 510, 0, 2047, 4095]
theorem frac_loose_times.tab8 : rtab .any (opsOf Tryd.f67 8) = frac_loose_times.T8 := by kernel_rfl
theorem frac_loose_times.bits8 : waitsOk frac_loose_times.T8.2 frac_loose_times.B8 = true := by kernel_rfl
set_option maxHeartbeats 8000000 in
set_option maxRecDepth 100000 in
theorem frac_loose_times.calls (k : Nat) (a0_0 : Int) (a0_1 : Int) (a0_2 : Int) (a0_3 : Int) (a1_0 : Int) (a1_1 : Int) (a1_2 : Int) (a1_3 : Int) (r1 : Int) (r2 : Int) (r3 : Int) (r4 : Int) (r5 : Bool) (w : World) (h : frac_loose_times.f k a0_0 a0_1 a0_2 a0_3 a1_0 a1_1 a1_2 a1_3 = some (r1, r2, r3, r4, r5)) :
  Calls Tryd.prog 67 #[.agg #[.int .i64 a0_0, .int .i64 a0_1, .int .i64 a0_2, .int .i64 a0_3], .agg #[.int .i64 a1_0, .int .i64 a1_1, .int .i64 a1_2, .int .i64 a1_3]] w fun e w' => e = .returned (.tuple #[.agg #[.int .i64 r1, .int .i64 r2, .int .i64 r3, .int .i64 r4], .bool r5]) ∧ Below w.heap.size w w' := by
 have hu100 := Tryd.underlying100
 have hsd : ∀ (W : World) (n_ : Nat) (a_ : Addr) (v_ : Value), (W.drewN n_).setCell a_ v_ = (W.setCell a_ v_).drewN n_ := fun _ _ _ _ => rfl
 have HB := Aside0.mk (Below.refl w.heap.size w)
 have H : ((whole_Gcd.f k a0_0 a1_1).bind fun t115 => ((whole_Gcd.f k a1_0 a0_1).bind fun t116 => (if t115 = 0 then (none) else (if t116 = 0 then (none) else ((whole_Mul.f k (wrap64 (Int.tdiv a0_0 t115)) (wrap64 (Int.tdiv a1_0 t116))).bind fun bt117 => ((whole_Mul.f k (wrap64 (Int.tdiv a0_1 t116)) (wrap64 (Int.tdiv a1_1 t115))).bind fun bt119 => (if bt117.2 = true then (some (bt117.1, bt119.1, wrap64 (a0_2 + a1_2), wrap64 (a0_3 + a1_3), bt119.2)) else (some (bt117.1, bt119.1, wrap64 (a0_2 + a1_2), wrap64 (a0_3 + a1_3), false))))))))) = some (r1, r2, r3, r4, r5) := h
 clear h
 replace H := Option.bind_eq_some_iff.mp H
 obtain ⟨t115, A30, H⟩ := H
 replace H : ((whole_Gcd.f k a1_0 a0_1).bind fun t116 => (if t115 = 0 then (none) else (if t116 = 0 then (none) else ((whole_Mul.f k (wrap64 (Int.tdiv a0_0 t115)) (wrap64 (Int.tdiv a1_0 t116))).bind fun bt117 => ((whole_Mul.f k (wrap64 (Int.tdiv a0_1 t116)) (wrap64 (Int.tdiv a1_1 t115))).bind fun bt119 => (if bt117.2 = true then (some (bt117.1, bt119.1, wrap64 (a0_2 + a1_2), wrap64 (a0_3 + a1_3), bt119.2)) else (some (bt117.1, bt119.1, wrap64 (a0_2 + a1_2), wrap64 (a0_3 + a1_3), false)))))))) = some (r1, r2, r3, r4, r5) := H
 have A3 := Aside0.mk A30
 clear A30
 replace H := Option.bind_eq_some_iff.mp H
 obtain ⟨t116, A40, H⟩ := H
 replace H : (if t115 = 0 then (none) else (if t116 = 0 then (none) else ((whole_Mul.f k (wrap64 (Int.tdiv a0_0 t115)) (wrap64 (Int.tdiv a1_0 t116))).bind fun bt117 => ((whole_Mul.f k (wrap64 (Int.tdiv a0_1 t116)) (wrap64 (Int.tdiv a1_1 t115))).bind fun bt119 => (if bt117.2 = true then (some (bt117.1, bt119.1, wrap64 (a0_2 + a1_2), wrap64 (a0_3 + a1_3), bt119.2)) else (some (bt117.1, bt119.1, wrap64 (a0_2 + a1_2), wrap64 (a0_3 + a1_3), false))))))) = some (r1, r2, r3, r4, r5) := H
 have A4 := Aside0.mk A40
 clear A40
 by_cases c5 : t115 = 0
 ·rw [if_pos c5] at H
  exact absurd H (by simp)
 ·rw [if_neg c5] at H
  have c5b0 : (t115 == 0) = false := beq_eq_false_iff_ne.mpr c5
  have c5b1 : (t115 != 0) = true := bne_iff_ne.mpr c5
  by_cases c6 : t116 = 0
  ·rw [if_pos c6] at H
   exact absurd H (by simp)
  ·rw [if_neg c6] at H
   have c6b0 : (t116 == 0) = false := beq_eq_false_iff_ne.mpr c6
   have c6b1 : (t116 != 0) = true := bne_iff_ne.mpr c6
   replace H := Option.bind_eq_some_iff.mp H
   obtain ⟨⟨t117, t118⟩, A70, H⟩ := H
   replace H : ((whole_Mul.f k (wrap64 (Int.tdiv a0_1 t116)) (wrap64 (Int.tdiv a1_1 t115))).bind fun bt119 => (if t118 = true then (some (t117, bt119.1, wrap64 (a0_2 + a1_2), wrap64 (a0_3 + a1_3), bt119.2)) else (some (t117, bt119.1, wrap64 (a0_2 + a1_2), wrap64 (a0_3 + a1_3), false)))) = some (r1, r2, r3, r4, r5) := H
   have A7 := Aside0.mk A70
   clear A70
   replace H := Option.bind_eq_some_iff.mp H
   obtain ⟨⟨t119, t120⟩, A80, H⟩ := H
   replace H : (if t118 = true then (some (t117, t119, wrap64 (a0_2 + a1_2), wrap64 (a0_3 + a1_3), t120)) else (some (t117, t119, wrap64 (a0_2 + a1_2), wrap64 (a0_3 + a1_3), false))) = some (r1, r2, r3, r4, r5) := H
   have A8 := Aside0.mk A80
   clear A80
   by_cases c9 : t118 = true
   ·subst c9
    have H1 : (some (t117, t119, wrap64 (a0_2 + a1_2), wrap64 (a0_3 + a1_3), t120)) = some (r1, r2, r3, r4, r5) := by rw [if_pos rfl] at H; exact H
    clear H
    have H := H1
    clear H1
    simp only [Option.some.injEq, Prod.mk.injEq] at H
    obtain ⟨rfl, rfl, rfl, rfl, rfl⟩ := H
    go_enter Tryd.func67, Tryd.ntmps67
    try go_wp2_with (first | ((with_reducible refine gate_dst (N := 2) rfl ?_); refine box_event ?hg (N := 2) ?hd (cs := #[.int .i64 a0_0, .int .i64 a0_1, .int .i64 a0_2, .int .i64 a0_3]) (t := 100) ?hr ?_; (case hd => rfl); (case hg => rfl); (case hr => first | (go_simp; done) | (go_simp; rfl)); intro gb112 hg w10 hbox hb; have n0_ := sb HB hb; have n1_ := Aside0.mk (hbox); have n2_ := Aside0.mk ((by rw [hg]; exact (below_size (bl HB.out)) : w.heap.size ≤ gb112)); have n3_ := Aside0.mk ((by rw [hg]; exact (below_size (bl HB.out)) : w.heap.size ≤ gb112)); clear HB; have HB := n0_; have BK112 := n1_; have GW112 := n2_; have GE112 := n3_; clear n0_ n1_ n2_ n3_; clear hb hbox hg) | ((with_reducible refine gate_dst (N := 3) rfl ?_); refine box_event ?hg (N := 3) ?hd (cs := #[.int .i64 a1_0, .int .i64 a1_1, .int .i64 a1_2, .int .i64 a1_3]) (t := 100) ?hr ?_; (case hd => rfl); (case hg => rfl); (case hr => first | (go_simp; done) | (go_simp; rfl)); intro gb113 hg w11 hbox hb; have n0_ := kb BK112 hb; have n1_ := sb HB hb; have n2_ := Aside0.mk (hbox); have n3_ := Aside0.mk ((by rw [hg]; exact (below_size (bl HB.out)) : w.heap.size ≤ gb113)); have n4_ := Aside0.mk ((by rw [hg]; exact (below_size (bl HB.out)) : w.heap.size ≤ gb113)); have n5_ := Aside0.mk ((by rw [hg]; exact Nat.ne_of_lt (blk_lt (kp BK112.out)) : gb112 ≠ gb113)); have n6_ := Aside0.mk ((by rw [hg]; exact Nat.ne_of_gt (blk_lt (kp BK112.out)) : gb113 ≠ gb112)); clear BK112; clear HB; have BK112 := n0_; have HB := n1_; have BK113 := n2_; have GW113 := n3_; have GE113 := n4_; have NB112_113 := n5_; have NB113_112 := n6_; clear n0_ n1_ n2_ n3_ n4_ n5_ n6_; clear hb hbox hg) | ((with_reducible refine gate_dst (N := 4) rfl ?_); refine box_event ?hg (N := 4) ?hd (cs := #[.int .i64 0, .int .i64 0, .int .i64 0, .int .i64 0]) (t := 100) ?hr ?_; (case hd => rfl); (case hg => rfl); (case hr => first | (go_simp; done) | (go_simp; rfl)); intro gb114 hg w12 hbox hb; have n0_ := kb BK112 hb; have n1_ := kb BK113 hb; have n2_ := sb HB hb; have n3_ := Aside0.mk (hbox); have n4_ := Aside0.mk ((by rw [hg]; exact (below_size (bl HB.out)) : w.heap.size ≤ gb114)); have n5_ := Aside0.mk ((by rw [hg]; exact (below_size (bl HB.out)) : w.heap.size ≤ gb114)); have n6_ := Aside0.mk ((by rw [hg]; exact Nat.ne_of_lt (blk_lt (kp BK112.out)) : gb112 ≠ gb114)); have n7_ := Aside0.mk ((by rw [hg]; exact Nat.ne_of_gt (blk_lt (kp BK112.out)) : gb114 ≠ gb112)); have n8_ := Aside0.mk ((by rw [hg]; exact Nat.ne_of_lt (blk_lt (kp BK113.out)) : gb113 ≠ gb114)); have n9_ := Aside0.mk ((by rw [hg]; exact Nat.ne_of_gt (blk_lt (kp BK113.out)) : gb114 ≠ gb113)); clear BK112; clear BK113; clear HB; have BK112 := n0_; have BK113 := n1_; have HB := n2_; have BK114 := n3_; have GW114 := n4_; have GE114 := n5_; have NB112_114 := n6_; have NB114_112 := n7_; have NB113_114 := n8_; have NB114_113 := n9_; clear n0_ n1_ n2_ n3_ n4_ n5_ n6_ n7_ n8_ n9_; clear hb hbox hg))
    (try (rw [drewN_self w12]; generalize hq_ : World.drewN w12 _ = w12; replace BK112 := Aside0.mk (kq hq_ BK112.out); replace BK113 := Aside0.mk (kq hq_ BK113.out); replace BK114 := Aside0.mk (kq hq_ BK114.out); replace HB := Aside0.mk (bq hq_ HB.out); clear hq_))
    replace BK112 := Aside0.mk (blk_drew BK112.out)
    replace BK113 := Aside0.mk (blk_drew BK113.out)
    replace BK114 := Aside0.mk (blk_drew BK114.out)
    replace HB := Aside0.mk (below_drew1 HB.out)
    refine start_ (n := 12) (S := fun w' => w'.cell? ⟨gb112, 0, none⟩ = some (.int .i64 a0_0) ∧ w'.cell? ⟨gb112, 1, none⟩ = some (.int .i64 a0_1) ∧ w'.cell? ⟨gb112, 2, none⟩ = some (.int .i64 a0_2) ∧ w'.cell? ⟨gb112, 3, none⟩ = some (.int .i64 a0_3) ∧ w'.cell? ⟨gb113, 0, none⟩ = some (.int .i64 a1_0) ∧ w'.cell? ⟨gb113, 1, none⟩ = some (.int .i64 a1_1) ∧ w'.cell? ⟨gb113, 2, none⟩ = some (.int .i64 a1_2) ∧ w'.cell? ⟨gb113, 3, none⟩ = some (.int .i64 a1_3)) (ds := []) #[false, false, false, false, false, false, false, false, false, false, false, false] (by kernel_rfl) rfl rfl ⟨(blk_cell BK112.out 0).trans rfl, (blk_cell BK112.out 1).trans rfl, (blk_cell BK112.out 2).trans rfl, (blk_cell BK112.out 3).trans rfl, (blk_cell BK113.out 0).trans rfl, (blk_cell BK113.out 1).trans rfl, (blk_cell BK113.out 2).trans rfl, (blk_cell BK113.out 3).trans rfl⟩ (fun hHeld => ?_); refine with_tabW frac_loose_times.tab1 frac_loose_times.bits1 (fun HT_ HW_ => ?_)
    generalize w12.drew = w13 at BK112 BK113 BK114 HB hHeld ⊢
    refine pure_ (i := 0) (N := some 14) (v := ?_) (a' := ?_) #[true, false, false, false, false, false, false, false, false, false, false, false] rfl rfl (any_of HT_.out (by kernel_rfl)) (fun _ _ _ h => h) (Or.inl ⟨by rfl, ?_⟩) ?_ ?_
    rotate_left
    ·intro w'
     go_simp
     with_reducible rfl
    rotate_left
    ·simp only [Act.put, List.setIfInBounds_toArray, List.set_cons_zero, List.set_cons_succ, i64_w, i32_w]
     rfl
    refine pure_ (i := 2) (N := some 16) (v := ?_) (a' := ?_) #[true, false, true, false, false, false, false, false, false, false, false, false] rfl rfl (any_of HT_.out (by kernel_rfl)) (fun _ _ _ h => h) (Or.inl ⟨by rfl, ?_⟩) ?_ ?_
    rotate_left
    ·intro w'
     go_simp
     with_reducible rfl
    rotate_left
    ·simp only [Act.put, List.setIfInBounds_toArray, List.set_cons_zero, List.set_cons_succ, i64_w, i32_w]
     rfl
    refine pure_ (i := 5) (N := some 19) (v := ?_) (a' := ?_) #[true, false, true, false, false, true, false, false, false, false, false, false] rfl rfl (any_of HT_.out (by kernel_rfl)) (fun _ _ _ h => h) (Or.inl ⟨by rfl, ?_⟩) ?_ ?_
    rotate_left
    ·intro w'
     go_simp
     with_reducible rfl
    rotate_left
    ·simp only [Act.put, List.setIfInBounds_toArray, List.set_cons_zero, List.set_cons_succ, i64_w, i32_w]
     rfl
    refine pure_ (i := 7) (N := some 21) (v := ?_) (a' := ?_) #[true, false, true, false, false, true, false, true, false, false, false, false] rfl rfl (any_of HT_.out (by kernel_rfl)) (fun _ _ _ h => h) (Or.inl ⟨by rfl, ?_⟩) ?_ ?_
    rotate_left
    ·intro w'
     go_simp
     with_reducible rfl
    rotate_left
    ·simp only [Act.put, List.setIfInBounds_toArray, List.set_cons_zero, List.set_cons_succ, i64_w, i32_w]
     rfl
    refine take_ (i := 1) (N := some 15) (v := ?_) (a' := ?_) #[true, true, true, false, false, true, false, true, false, false, false, false] rfl rfl (take_ofW HT_.out HW_.out (by kernel_rfl)) (fun _ _ _ h => h) (Or.inl ⟨by rfl, ?_⟩) hHeld ?_ ?_
    rotate_left
    ·rintro w' ⟨s0, s1, s2, s3, s4, s5, s6, s7⟩
     go_simp
     with_reducible rfl
    rotate_left
    ·simp only [Act.put, List.setIfInBounds_toArray, List.set_cons_zero, List.set_cons_succ, i64_w, i32_w]
     rfl
    refine take_ (i := 3) (N := some 17) (v := ?_) (a' := ?_) #[true, true, true, true, false, true, false, true, false, false, false, false] rfl rfl (take_ofW HT_.out HW_.out (by kernel_rfl)) (fun _ _ _ h => h) (Or.inl ⟨by rfl, ?_⟩) hHeld ?_ ?_
    rotate_left
    ·rintro w' ⟨s0, s1, s2, s3, s4, s5, s6, s7⟩
     go_simp
     with_reducible rfl
    rotate_left
    ·simp only [Act.put, List.setIfInBounds_toArray, List.set_cons_zero, List.set_cons_succ, i64_w, i32_w]
     rfl
    refine take_ (i := 6) (N := some 20) (v := ?_) (a' := ?_) #[true, true, true, true, false, true, true, true, false, false, false, false] rfl rfl (take_ofW HT_.out HW_.out (by kernel_rfl)) (fun _ _ _ h => h) (Or.inl ⟨by rfl, ?_⟩) hHeld ?_ ?_
    rotate_left
    ·rintro w' ⟨s0, s1, s2, s3, s4, s5, s6, s7⟩
     go_simp
     with_reducible rfl
    rotate_left
    ·simp only [Act.put, List.setIfInBounds_toArray, List.set_cons_zero, List.set_cons_succ, i64_w, i32_w]
     rfl
    refine take_ (i := 8) (N := some 22) (v := ?_) (a' := ?_) #[true, true, true, true, false, true, true, true, true, false, false, false] rfl rfl (take_ofW HT_.out HW_.out (by kernel_rfl)) (fun _ _ _ h => h) (Or.inl ⟨by rfl, ?_⟩) hHeld ?_ ?_
    rotate_left
    ·rintro w' ⟨s0, s1, s2, s3, s4, s5, s6, s7⟩
     go_simp
     with_reducible rfl
    rotate_left
    ·simp only [Act.put, List.setIfInBounds_toArray, List.set_cons_zero, List.set_cons_succ, i64_w, i32_w]
     rfl
    refine one_ (i := 4) (N := some 18) #[true, true, true, true, true, true, true, true, true, false, false, false] rfl rfl (one_of HT_.out (by kernel_rfl)) (by decide) (fun K hK => ?_)
    refine goes_ Tryd.func77 (by kernel_rfl) rfl #[.int .i64 a0_0, .int .i64 a1_1] (by rfl) rfl rfl (by (try simp only [List.map_toArray, List.map_cons, List.map_nil]); first | done | rfl | (simp only [List.length_drop, List.length_take]; rfl)) ?_
    with_reducible refine (whole_Gcd.calls k a0_0 a1_1 t115 _ A3.out).mono ?_
    rintro e w14 ⟨rfl, hb⟩
    refine ⟨_, rfl, ?_⟩
    replace BK112 := kb BK112 hb
    replace BK113 := kb BK113 hb
    replace BK114 := kb BK114 hb
    replace HB := sb HB hb
    (try clear hb)
    (try clear hb2)
    (try clear hk)
    (try clear hi)
    refine hK.out _ _ ⟨(blk_cell BK112.out 0).trans rfl, (blk_cell BK112.out 1).trans rfl, (blk_cell BK112.out 2).trans rfl, (blk_cell BK112.out 3).trans rfl, (blk_cell BK113.out 0).trans rfl, (blk_cell BK113.out 1).trans rfl, (blk_cell BK113.out 2).trans rfl, (blk_cell BK113.out 3).trans rfl⟩ (fun hHeld => ?_)
    clear hK K
    refine norm_ (a' := ?_) ?_ ?_
    rotate_left
    ·show Act.put _ (some 18) _ = _
     simp only [Act.put, List.setIfInBounds_toArray, List.set_cons_zero, List.set_cons_succ, i64_w, i32_w]
     rfl
    refine one_ (i := 9) (N := some 23) #[true, true, true, true, true, true, true, true, true, true, false, false] rfl rfl (one_of HT_.out (by kernel_rfl)) (by decide) (fun K hK => ?_)
    refine goes_ Tryd.func77 (by kernel_rfl) rfl #[.int .i64 a1_0, .int .i64 a0_1] (by rfl) rfl rfl (by (try simp only [List.map_toArray, List.map_cons, List.map_nil]); first | done | rfl | (simp only [List.length_drop, List.length_take]; rfl)) ?_
    with_reducible refine (whole_Gcd.calls k a1_0 a0_1 t116 _ A4.out).mono ?_
    rintro e w15 ⟨rfl, hb⟩
    refine ⟨_, rfl, ?_⟩
    replace BK112 := kb BK112 hb
    replace BK113 := kb BK113 hb
    replace BK114 := kb BK114 hb
    replace HB := sb HB hb
    (try clear hb)
    (try clear hb2)
    (try clear hk)
    (try clear hi)
    refine hK.out _ _ ⟨(blk_cell BK112.out 0).trans rfl, (blk_cell BK112.out 1).trans rfl, (blk_cell BK112.out 2).trans rfl, (blk_cell BK112.out 3).trans rfl, (blk_cell BK113.out 0).trans rfl, (blk_cell BK113.out 1).trans rfl, (blk_cell BK113.out 2).trans rfl, (blk_cell BK113.out 3).trans rfl⟩ (fun hHeld => ?_)
    clear hK K
    refine norm_ (a' := ?_) ?_ ?_
    rotate_left
    ·show Act.put _ (some 23) _ = _
     simp only [Act.put, List.setIfInBounds_toArray, List.set_cons_zero, List.set_cons_succ, i64_w, i32_w]
     rfl
    refine pure_ (i := 10) (N := some 6) (v := ?_) (a' := ?_) #[true, true, true, true, true, true, true, true, true, true, true, false] rfl rfl (any_of HT_.out (by kernel_rfl)) (fun _ _ _ h => h) (Or.inl ⟨by rfl, ?_⟩) ?_ ?_
    rotate_left
    ·intro w'
     go_simp
     with_reducible rfl
    rotate_left
    ·simp only [Act.put, List.setIfInBounds_toArray, List.set_cons_zero, List.set_cons_succ, i64_w, i32_w]
     rfl
    refine pure_ (i := 11) (N := some 7) (v := ?_) (a' := ?_) #[true, true, true, true, true, true, true, true, true, true, true, true] rfl rfl (any_of HT_.out (by kernel_rfl)) (fun _ _ _ h => h) (Or.inl ⟨by rfl, ?_⟩) ?_ ?_
    rotate_left
    ·intro w'
     go_simp
     with_reducible rfl
    rotate_left
    ·simp only [Act.put, List.setIfInBounds_toArray, List.set_cons_zero, List.set_cons_succ, i64_w, i32_w]
     rfl
    refine done_ (done_of HT_.out (by kernel_rfl)) ?_
    try go_wp2
    (try (rw [drewN_self w15]; generalize hq_ : World.drewN w15 _ = w15; replace BK112 := Aside0.mk (kq hq_ BK112.out); replace BK113 := Aside0.mk (kq hq_ BK113.out); replace BK114 := Aside0.mk (kq hq_ BK114.out); replace HB := Aside0.mk (bq hq_ HB.out); clear hq_))
    replace BK112 := Aside0.mk (blk_drew BK112.out)
    replace BK113 := Aside0.mk (blk_drew BK113.out)
    replace BK114 := Aside0.mk (blk_drew BK114.out)
    replace HB := Aside0.mk (below_drew1 HB.out)
    refine start_ (n := 14) (S := fun w' => w'.cell? ⟨gb112, 0, none⟩ = some (.int .i64 a0_0) ∧ w'.cell? ⟨gb112, 1, none⟩ = some (.int .i64 a0_1) ∧ w'.cell? ⟨gb112, 2, none⟩ = some (.int .i64 a0_2) ∧ w'.cell? ⟨gb112, 3, none⟩ = some (.int .i64 a0_3) ∧ w'.cell? ⟨gb113, 0, none⟩ = some (.int .i64 a1_0) ∧ w'.cell? ⟨gb113, 1, none⟩ = some (.int .i64 a1_1) ∧ w'.cell? ⟨gb113, 2, none⟩ = some (.int .i64 a1_2) ∧ w'.cell? ⟨gb113, 3, none⟩ = some (.int .i64 a1_3)) (ds := []) #[false, false, false, false, false, false, false, false, false, false, false, false, false, false] (by kernel_rfl) rfl rfl ⟨(blk_cell BK112.out 0).trans rfl, (blk_cell BK112.out 1).trans rfl, (blk_cell BK112.out 2).trans rfl, (blk_cell BK112.out 3).trans rfl, (blk_cell BK113.out 0).trans rfl, (blk_cell BK113.out 1).trans rfl, (blk_cell BK113.out 2).trans rfl, (blk_cell BK113.out 3).trans rfl⟩ (fun hHeld => ?_); refine with_tabW frac_loose_times.tab2 frac_loose_times.bits2 (fun HT_ HW_ => ?_)
    generalize w15.drew = w16 at BK112 BK113 BK114 HB hHeld ⊢
    refine pure_ (i := 0) (N := some 25) (v := ?_) (a' := ?_) #[true, false, false, false, false, false, false, false, false, false, false, false, false, false] rfl rfl (any_of HT_.out (by kernel_rfl)) (fun _ _ _ h => h) (Or.inl ⟨by rfl, ?_⟩) ?_ ?_
    rotate_left
    ·intro w'
     go_simp
     with_reducible rfl
    rotate_left
    ·simp only [Act.put, List.setIfInBounds_toArray, List.set_cons_zero, List.set_cons_succ, i64_w, i32_w]
     rfl
    refine pure_ (i := 2) (N := some 27) (v := ?_) (a' := ?_) #[true, false, true, false, false, false, false, false, false, false, false, false, false, false] rfl rfl (any_of HT_.out (by kernel_rfl)) (fun _ _ _ h => h) (Or.inl ⟨by rfl, ?_⟩) ?_ ?_
    rotate_left
    ·intro w'
     go_simp
     with_reducible rfl
    rotate_left
    ·simp only [Act.put, List.setIfInBounds_toArray, List.set_cons_zero, List.set_cons_succ, i64_w, i32_w]
     rfl
    refine pure_ (i := 4) (N := some 29) (v := ?_) (a' := ?_) #[true, false, true, false, true, false, false, false, false, false, false, false, false, false] rfl rfl (any_of HT_.out (by kernel_rfl)) (fun _ _ _ h => h) (Or.inl ⟨by rfl, ?_⟩) ?_ ?_
    rotate_left
    ·intro w'
     go_simp
     with_reducible rfl
    rotate_left
    ·simp only [Act.put, List.setIfInBounds_toArray, List.set_cons_zero, List.set_cons_succ, i64_w, i32_w]
     rfl
    refine pure_ (i := 6) (N := some 31) (v := ?_) (a' := ?_) #[true, false, true, false, true, false, true, false, false, false, false, false, false, false] rfl rfl (any_of HT_.out (by kernel_rfl)) (fun _ _ _ h => h) (Or.inl ⟨by rfl, ?_⟩) ?_ ?_
    rotate_left
    ·intro w'
     go_simp
     with_reducible rfl
    rotate_left
    ·simp only [Act.put, List.setIfInBounds_toArray, List.set_cons_zero, List.set_cons_succ, i64_w, i32_w]
     rfl
    refine take_ (i := 1) (N := some 26) (v := ?_) (a' := ?_) #[true, true, true, false, true, false, true, false, false, false, false, false, false, false] rfl rfl (take_ofW HT_.out HW_.out (by kernel_rfl)) (fun _ _ _ h => h) (Or.inl ⟨by rfl, ?_⟩) hHeld ?_ ?_
    rotate_left
    ·rintro w' ⟨s0, s1, s2, s3, s4, s5, s6, s7⟩
     go_simp
     with_reducible rfl
    rotate_left
    ·simp only [Act.put, List.setIfInBounds_toArray, List.set_cons_zero, List.set_cons_succ, i64_w, i32_w]
     rfl
    refine pure_ (i := 3) (N := some 28) (v := ?_) (a' := ?_) #[true, true, true, true, true, false, true, false, false, false, false, false, false, false] rfl rfl (any_of HT_.out (by kernel_rfl)) (fun _ _ _ h => h) (Or.inl ⟨by rfl, ?_⟩) ?_ ?_
    rotate_left
    ·intro w'
     go_simp
     with_reducible rfl
    rotate_left
    ·simp only [Act.put, List.setIfInBounds_toArray, List.set_cons_zero, List.set_cons_succ, i64_w, i32_w]
     rfl
    refine take_ (i := 5) (N := some 30) (v := ?_) (a' := ?_) #[true, true, true, true, true, true, true, false, false, false, false, false, false, false] rfl rfl (take_ofW HT_.out HW_.out (by kernel_rfl)) (fun _ _ _ h => h) (Or.inl ⟨by rfl, ?_⟩) hHeld ?_ ?_
    rotate_left
    ·rintro w' ⟨s0, s1, s2, s3, s4, s5, s6, s7⟩
     go_simp
     with_reducible rfl
    rotate_left
    ·simp only [Act.put, List.setIfInBounds_toArray, List.set_cons_zero, List.set_cons_succ, i64_w, i32_w]
     rfl
    refine pure_ (i := 7) (N := some 32) (v := ?_) (a' := ?_) #[true, true, true, true, true, true, true, true, false, false, false, false, false, false] rfl rfl (any_of HT_.out (by kernel_rfl)) (fun _ _ _ h => h) (Or.inl ⟨by rfl, ?_⟩) ?_ ?_
    rotate_left
    ·intro w'
     go_simp
     with_reducible rfl
    rotate_left
    ·simp only [Act.put, List.setIfInBounds_toArray, List.set_cons_zero, List.set_cons_succ, i64_w, i32_w]
     rfl
    refine one_ (i := 8) (N := some 33) #[true, true, true, true, true, true, true, true, true, false, false, false, false, false] rfl rfl (one_of HT_.out (by kernel_rfl)) (by decide) (fun K hK => ?_)
    refine goes_ Tryd.func86 (by kernel_rfl) rfl #[.int .i64 (wrap64 (Int.tdiv a0_0 t115)), .int .i64 (wrap64 (Int.tdiv a1_0 t116))] (by rfl) rfl rfl (by (try simp only [List.map_toArray, List.map_cons, List.map_nil]); first | done | rfl | (simp only [List.length_drop, List.length_take]; rfl)) ?_
    with_reducible refine (whole_Mul.calls k (wrap64 (Int.tdiv a0_0 t115)) (wrap64 (Int.tdiv a1_0 t116)) t117 true _ A7.out).mono ?_
    rintro e w17 ⟨rfl, hb⟩
    refine ⟨_, rfl, ?_⟩
    replace BK112 := kb BK112 hb
    replace BK113 := kb BK113 hb
    replace BK114 := kb BK114 hb
    replace HB := sb HB hb
    (try clear hb)
    (try clear hb2)
    (try clear hk)
    (try clear hi)
    refine hK.out _ _ ⟨(blk_cell BK112.out 0).trans rfl, (blk_cell BK112.out 1).trans rfl, (blk_cell BK112.out 2).trans rfl, (blk_cell BK112.out 3).trans rfl, (blk_cell BK113.out 0).trans rfl, (blk_cell BK113.out 1).trans rfl, (blk_cell BK113.out 2).trans rfl, (blk_cell BK113.out 3).trans rfl⟩ (fun hHeld => ?_)
    clear hK K
    refine norm_ (a' := ?_) ?_ ?_
    rotate_left
    ·show Act.put _ (some 33) _ = _
     simp only [Act.put, List.setIfInBounds_toArray, List.set_cons_zero, List.set_cons_succ, i64_w, i32_w]
     rfl
    refine pure_ (i := 9) (N := some 24) (v := ?_) (a' := ?_) #[true, true, true, true, true, true, true, true, true, true, false, false, false, false] rfl rfl (any_of HT_.out (by kernel_rfl)) (fun _ _ _ h => h) (Or.inl ⟨by rfl, ?_⟩) ?_ ?_
    rotate_left
    ·intro w'
     go_simp
     with_reducible rfl
    rotate_left
    ·simp only [Act.put, List.setIfInBounds_toArray, List.set_cons_zero, List.set_cons_succ, i64_w, i32_w]
     rfl
    refine pure_ (i := 10) (N := some 34) (v := ?_) (a' := ?_) #[true, true, true, true, true, true, true, true, true, true, true, false, false, false] rfl rfl (any_of HT_.out (by kernel_rfl)) (fun _ _ _ h => h) (Or.inl ⟨by rfl, ?_⟩) ?_ ?_
    rotate_left
    ·intro w'
     go_simp
     with_reducible rfl
    rotate_left
    ·simp only [Act.put, List.setIfInBounds_toArray, List.set_cons_zero, List.set_cons_succ, i64_w, i32_w]
     rfl
    refine pure_ (i := 11) (N := some 35) (v := ?_) (a' := ?_) #[true, true, true, true, true, true, true, true, true, true, true, true, false, false] rfl rfl (any_of HT_.out (by kernel_rfl)) (fun _ _ _ h => h) (Or.inl ⟨by rfl, ?_⟩) ?_ ?_
    rotate_left
    ·intro w'
     go_simp
     with_reducible rfl
    rotate_left
    ·simp only [Act.put, List.setIfInBounds_toArray, List.set_cons_zero, List.set_cons_succ, i64_w, i32_w]
     rfl
    refine pure_ (i := 12) (N := some 8) (v := ?_) (a' := ?_) #[true, true, true, true, true, true, true, true, true, true, true, true, true, false] rfl rfl (any_of HT_.out (by kernel_rfl)) (fun _ _ _ h => h) (Or.inl ⟨by rfl, ?_⟩) ?_ ?_
    rotate_left
    ·intro w'
     go_simp
     with_reducible rfl
    rotate_left
    ·simp only [Act.put, List.setIfInBounds_toArray, List.set_cons_zero, List.set_cons_succ, i64_w, i32_w]
     rfl
    refine pure_ (i := 13) (N := some 9) (v := ?_) (a' := ?_) #[true, true, true, true, true, true, true, true, true, true, true, true, true, true] rfl rfl (any_of HT_.out (by kernel_rfl)) (fun _ _ _ h => h) (Or.inl ⟨by rfl, ?_⟩) ?_ ?_
    rotate_left
    ·intro w'
     go_simp
     with_reducible rfl
    rotate_left
    ·simp only [Act.put, List.setIfInBounds_toArray, List.set_cons_zero, List.set_cons_succ, i64_w, i32_w]
     rfl
    refine done_ (done_of HT_.out (by kernel_rfl)) ?_
    try go_wp2
    (try (rw [drewN_self w17]; generalize hq_ : World.drewN w17 _ = w17; replace BK112 := Aside0.mk (kq hq_ BK112.out); replace BK113 := Aside0.mk (kq hq_ BK113.out); replace BK114 := Aside0.mk (kq hq_ BK114.out); replace HB := Aside0.mk (bq hq_ HB.out); clear hq_))
    replace BK112 := Aside0.mk (blk_drew BK112.out)
    replace BK113 := Aside0.mk (blk_drew BK113.out)
    replace BK114 := Aside0.mk (blk_drew BK114.out)
    replace HB := Aside0.mk (below_drew1 HB.out)
    refine start_ (n := 14) (S := fun w' => w'.cell? ⟨gb112, 0, none⟩ = some (.int .i64 a0_0) ∧ w'.cell? ⟨gb112, 1, none⟩ = some (.int .i64 a0_1) ∧ w'.cell? ⟨gb112, 2, none⟩ = some (.int .i64 a0_2) ∧ w'.cell? ⟨gb112, 3, none⟩ = some (.int .i64 a0_3) ∧ w'.cell? ⟨gb113, 0, none⟩ = some (.int .i64 a1_0) ∧ w'.cell? ⟨gb113, 1, none⟩ = some (.int .i64 a1_1) ∧ w'.cell? ⟨gb113, 2, none⟩ = some (.int .i64 a1_2) ∧ w'.cell? ⟨gb113, 3, none⟩ = some (.int .i64 a1_3)) (ds := []) #[false, false, false, false, false, false, false, false, false, false, false, false, false, false] (by kernel_rfl) rfl rfl ⟨(blk_cell BK112.out 0).trans rfl, (blk_cell BK112.out 1).trans rfl, (blk_cell BK112.out 2).trans rfl, (blk_cell BK112.out 3).trans rfl, (blk_cell BK113.out 0).trans rfl, (blk_cell BK113.out 1).trans rfl, (blk_cell BK113.out 2).trans rfl, (blk_cell BK113.out 3).trans rfl⟩ (fun hHeld => ?_); refine with_tabW frac_loose_times.tab3 frac_loose_times.bits3 (fun HT_ HW_ => ?_)
    generalize w17.drew = w18 at BK112 BK113 BK114 HB hHeld ⊢
    refine pure_ (i := 0) (N := some 37) (v := ?_) (a' := ?_) #[true, false, false, false, false, false, false, false, false, false, false, false, false, false] rfl rfl (any_of HT_.out (by kernel_rfl)) (fun _ _ _ h => h) (Or.inl ⟨by rfl, ?_⟩) ?_ ?_
    rotate_left
    ·intro w'
     go_simp
     with_reducible rfl
    rotate_left
    ·simp only [Act.put, List.setIfInBounds_toArray, List.set_cons_zero, List.set_cons_succ, i64_w, i32_w]
     rfl
    refine pure_ (i := 2) (N := some 39) (v := ?_) (a' := ?_) #[true, false, true, false, false, false, false, false, false, false, false, false, false, false] rfl rfl (any_of HT_.out (by kernel_rfl)) (fun _ _ _ h => h) (Or.inl ⟨by rfl, ?_⟩) ?_ ?_
    rotate_left
    ·intro w'
     go_simp
     with_reducible rfl
    rotate_left
    ·simp only [Act.put, List.setIfInBounds_toArray, List.set_cons_zero, List.set_cons_succ, i64_w, i32_w]
     rfl
    refine pure_ (i := 4) (N := some 41) (v := ?_) (a' := ?_) #[true, false, true, false, true, false, false, false, false, false, false, false, false, false] rfl rfl (any_of HT_.out (by kernel_rfl)) (fun _ _ _ h => h) (Or.inl ⟨by rfl, ?_⟩) ?_ ?_
    rotate_left
    ·intro w'
     go_simp
     with_reducible rfl
    rotate_left
    ·simp only [Act.put, List.setIfInBounds_toArray, List.set_cons_zero, List.set_cons_succ, i64_w, i32_w]
     rfl
    refine pure_ (i := 6) (N := some 43) (v := ?_) (a' := ?_) #[true, false, true, false, true, false, true, false, false, false, false, false, false, false] rfl rfl (any_of HT_.out (by kernel_rfl)) (fun _ _ _ h => h) (Or.inl ⟨by rfl, ?_⟩) ?_ ?_
    rotate_left
    ·intro w'
     go_simp
     with_reducible rfl
    rotate_left
    ·simp only [Act.put, List.setIfInBounds_toArray, List.set_cons_zero, List.set_cons_succ, i64_w, i32_w]
     rfl
    refine take_ (i := 1) (N := some 38) (v := ?_) (a' := ?_) #[true, true, true, false, true, false, true, false, false, false, false, false, false, false] rfl rfl (take_ofW HT_.out HW_.out (by kernel_rfl)) (fun _ _ _ h => h) (Or.inl ⟨by rfl, ?_⟩) hHeld ?_ ?_
    rotate_left
    ·rintro w' ⟨s0, s1, s2, s3, s4, s5, s6, s7⟩
     go_simp
     with_reducible rfl
    rotate_left
    ·simp only [Act.put, List.setIfInBounds_toArray, List.set_cons_zero, List.set_cons_succ, i64_w, i32_w]
     rfl
    refine pure_ (i := 3) (N := some 40) (v := ?_) (a' := ?_) #[true, true, true, true, true, false, true, false, false, false, false, false, false, false] rfl rfl (any_of HT_.out (by kernel_rfl)) (fun _ _ _ h => h) (Or.inl ⟨by rfl, ?_⟩) ?_ ?_
    rotate_left
    ·intro w'
     go_simp
     with_reducible rfl
    rotate_left
    ·simp only [Act.put, List.setIfInBounds_toArray, List.set_cons_zero, List.set_cons_succ, i64_w, i32_w]
     rfl
    refine take_ (i := 5) (N := some 42) (v := ?_) (a' := ?_) #[true, true, true, true, true, true, true, false, false, false, false, false, false, false] rfl rfl (take_ofW HT_.out HW_.out (by kernel_rfl)) (fun _ _ _ h => h) (Or.inl ⟨by rfl, ?_⟩) hHeld ?_ ?_
    rotate_left
    ·rintro w' ⟨s0, s1, s2, s3, s4, s5, s6, s7⟩
     go_simp
     with_reducible rfl
    rotate_left
    ·simp only [Act.put, List.setIfInBounds_toArray, List.set_cons_zero, List.set_cons_succ, i64_w, i32_w]
     rfl
    refine pure_ (i := 7) (N := some 44) (v := ?_) (a' := ?_) #[true, true, true, true, true, true, true, true, false, false, false, false, false, false] rfl rfl (any_of HT_.out (by kernel_rfl)) (fun _ _ _ h => h) (Or.inl ⟨by rfl, ?_⟩) ?_ ?_
    rotate_left
    ·intro w'
     go_simp
     with_reducible rfl
    rotate_left
    ·simp only [Act.put, List.setIfInBounds_toArray, List.set_cons_zero, List.set_cons_succ, i64_w, i32_w]
     rfl
    refine one_ (i := 8) (N := some 45) #[true, true, true, true, true, true, true, true, true, false, false, false, false, false] rfl rfl (one_of HT_.out (by kernel_rfl)) (by decide) (fun K hK => ?_)
    refine goes_ Tryd.func86 (by kernel_rfl) rfl #[.int .i64 (wrap64 (Int.tdiv a0_1 t116)), .int .i64 (wrap64 (Int.tdiv a1_1 t115))] (by rfl) rfl rfl (by (try simp only [List.map_toArray, List.map_cons, List.map_nil]); first | done | rfl | (simp only [List.length_drop, List.length_take]; rfl)) ?_
    with_reducible refine (whole_Mul.calls k (wrap64 (Int.tdiv a0_1 t116)) (wrap64 (Int.tdiv a1_1 t115)) t119 t120 _ A8.out).mono ?_
    rintro e w19 ⟨rfl, hb⟩
    refine ⟨_, rfl, ?_⟩
    replace BK112 := kb BK112 hb
    replace BK113 := kb BK113 hb
    replace BK114 := kb BK114 hb
    replace HB := sb HB hb
    (try clear hb)
    (try clear hb2)
    (try clear hk)
    (try clear hi)
    refine hK.out _ _ ⟨(blk_cell BK112.out 0).trans rfl, (blk_cell BK112.out 1).trans rfl, (blk_cell BK112.out 2).trans rfl, (blk_cell BK112.out 3).trans rfl, (blk_cell BK113.out 0).trans rfl, (blk_cell BK113.out 1).trans rfl, (blk_cell BK113.out 2).trans rfl, (blk_cell BK113.out 3).trans rfl⟩ (fun hHeld => ?_)
    clear hK K
    refine norm_ (a' := ?_) ?_ ?_
    rotate_left
    ·show Act.put _ (some 45) _ = _
     simp only [Act.put, List.setIfInBounds_toArray, List.set_cons_zero, List.set_cons_succ, i64_w, i32_w]
     rfl
    refine pure_ (i := 9) (N := some 36) (v := ?_) (a' := ?_) #[true, true, true, true, true, true, true, true, true, true, false, false, false, false] rfl rfl (any_of HT_.out (by kernel_rfl)) (fun _ _ _ h => h) (Or.inl ⟨by rfl, ?_⟩) ?_ ?_
    rotate_left
    ·intro w'
     go_simp
     with_reducible rfl
    rotate_left
    ·simp only [Act.put, List.setIfInBounds_toArray, List.set_cons_zero, List.set_cons_succ, i64_w, i32_w]
     rfl
    refine pure_ (i := 10) (N := some 46) (v := ?_) (a' := ?_) #[true, true, true, true, true, true, true, true, true, true, true, false, false, false] rfl rfl (any_of HT_.out (by kernel_rfl)) (fun _ _ _ h => h) (Or.inl ⟨by rfl, ?_⟩) ?_ ?_
    rotate_left
    ·intro w'
     go_simp
     with_reducible rfl
    rotate_left
    ·simp only [Act.put, List.setIfInBounds_toArray, List.set_cons_zero, List.set_cons_succ, i64_w, i32_w]
     rfl
    refine pure_ (i := 11) (N := some 47) (v := ?_) (a' := ?_) #[true, true, true, true, true, true, true, true, true, true, true, true, false, false] rfl rfl (any_of HT_.out (by kernel_rfl)) (fun _ _ _ h => h) (Or.inl ⟨by rfl, ?_⟩) ?_ ?_
    rotate_left
    ·intro w'
     go_simp
     with_reducible rfl
    rotate_left
    ·simp only [Act.put, List.setIfInBounds_toArray, List.set_cons_zero, List.set_cons_succ, i64_w, i32_w]
     rfl
    refine pure_ (i := 12) (N := some 10) (v := ?_) (a' := ?_) #[true, true, true, true, true, true, true, true, true, true, true, true, true, false] rfl rfl (any_of HT_.out (by kernel_rfl)) (fun _ _ _ h => h) (Or.inl ⟨by rfl, ?_⟩) ?_ ?_
    rotate_left
    ·intro w'
     go_simp
     with_reducible rfl
    rotate_left
    ·simp only [Act.put, List.setIfInBounds_toArray, List.set_cons_zero, List.set_cons_succ, i64_w, i32_w]
     rfl
    refine pure_ (i := 13) (N := some 11) (v := ?_) (a' := ?_) #[true, true, true, true, true, true, true, true, true, true, true, true, true, true] rfl rfl (any_of HT_.out (by kernel_rfl)) (fun _ _ _ h => h) (Or.inl ⟨by rfl, ?_⟩) ?_ ?_
    rotate_left
    ·intro w'
     go_simp
     with_reducible rfl
    rotate_left
    ·simp only [Act.put, List.setIfInBounds_toArray, List.set_cons_zero, List.set_cons_succ, i64_w, i32_w]
     rfl
    refine done_ (done_of HT_.out (by kernel_rfl)) ?_
    try go_wp2_with (first | ((with_reducible refine gate_dst (N := 12) rfl ?_); refine box_event ?hg (N := 12) ?hd (cs := #[.int .i64 0, .int .i64 0, .int .i64 0, .int .i64 0]) (t := 100) ?hr ?_; (case hd => rfl); (case hg => rfl); (case hr => first | (go_simp; done) | (go_simp; rfl)); intro gb121 hg w20 hbox hb; have n0_ := kb BK112 hb; have n1_ := kb BK113 hb; have n2_ := kb BK114 hb; have n3_ := sb HB hb; have n4_ := Aside0.mk (hbox); have n5_ := Aside0.mk ((by rw [hg]; exact (below_size (bl HB.out)) : w.heap.size ≤ gb121)); have n6_ := Aside0.mk ((by rw [hg]; exact (below_size (bl HB.out)) : w.heap.size ≤ gb121)); have n7_ := Aside0.mk ((by rw [hg]; exact Nat.ne_of_lt (blk_lt (kp BK112.out)) : gb112 ≠ gb121)); have n8_ := Aside0.mk ((by rw [hg]; exact Nat.ne_of_gt (blk_lt (kp BK112.out)) : gb121 ≠ gb112)); have n9_ := Aside0.mk ((by rw [hg]; exact Nat.ne_of_lt (blk_lt (kp BK113.out)) : gb113 ≠ gb121)); have n10_ := Aside0.mk ((by rw [hg]; exact Nat.ne_of_gt (blk_lt (kp BK113.out)) : gb121 ≠ gb113)); have n11_ := Aside0.mk ((by rw [hg]; exact Nat.ne_of_lt (blk_lt (kp BK114.out)) : gb114 ≠ gb121)); have n12_ := Aside0.mk ((by rw [hg]; exact Nat.ne_of_gt (blk_lt (kp BK114.out)) : gb121 ≠ gb114)); clear BK112; clear BK113; clear BK114; clear HB; have BK112 := n0_; have BK113 := n1_; have BK114 := n2_; have HB := n3_; have BK121 := n4_; have GW121 := n5_; have GE121 := n6_; have NB112_121 := n7_; have NB121_112 := n8_; have NB113_121 := n9_; have NB121_113 := n10_; have NB114_121 := n11_; have NB121_114 := n12_; clear n0_ n1_ n2_ n3_ n4_ n5_ n6_ n7_ n8_ n9_ n10_ n11_ n12_; clear hb hbox hg; have hnb21 := NB121_112.out; have hnc21 := NB112_121.out; have hnb22 := NB121_113.out; have hnc22 := NB113_121.out; have hnb23 := NB121_114.out; have hnc23 := NB114_121.out; obtain ⟨hcz24_0, hcz24_1, hcz24_2, hcz24_3⟩ := hc4 BK121.out; obtain ⟨hfz24_0, hfz24_1, hfz24_2, hfz24_3⟩ := hf4 BK121.out))
    refine wp_loop_rounds 41 ?_
    rw [rounds_succ]
    try go_wp2
    have n0_ : Aside0 (((((w20.setCell ⟨gb121, 0, none⟩ (.int .i64 t117)).setCell ⟨gb121, 1, none⟩ (.int .i64 t119)).setCell ⟨gb121, 2, none⟩ (.int .i64 0)).setCell ⟨gb121, 3, none⟩ (.int .i64 0)).heap[gb112]? = some (.cells #[.int .i64 a0_0, .int .i64 a0_1, .int .i64 a0_2, .int .i64 a0_3] 100 (0, 0))) := ⟨kp BK112.out⟩
    have n1_ : Aside0 (((((w20.setCell ⟨gb121, 0, none⟩ (.int .i64 t117)).setCell ⟨gb121, 1, none⟩ (.int .i64 t119)).setCell ⟨gb121, 2, none⟩ (.int .i64 0)).setCell ⟨gb121, 3, none⟩ (.int .i64 0)).heap[gb113]? = some (.cells #[.int .i64 a1_0, .int .i64 a1_1, .int .i64 a1_2, .int .i64 a1_3] 100 (0, 0))) := ⟨kp BK113.out⟩
    have n2_ : Aside0 (((((w20.setCell ⟨gb121, 0, none⟩ (.int .i64 t117)).setCell ⟨gb121, 1, none⟩ (.int .i64 t119)).setCell ⟨gb121, 2, none⟩ (.int .i64 0)).setCell ⟨gb121, 3, none⟩ (.int .i64 0)).heap[gb114]? = some (.cells #[.int .i64 0, .int .i64 0, .int .i64 0, .int .i64 0] 100 (0, 0))) := ⟨kp BK114.out⟩
    have n3_ : Aside0 (((((w20.setCell ⟨gb121, 0, none⟩ (.int .i64 t117)).setCell ⟨gb121, 1, none⟩ (.int .i64 t119)).setCell ⟨gb121, 2, none⟩ (.int .i64 0)).setCell ⟨gb121, 3, none⟩ (.int .i64 0)).heap[gb121]? = some (.cells #[.int .i64 t117, .int .i64 t119, .int .i64 0, .int .i64 0] 100 (0, 0))) := ⟨kp (p4_3 (kp (p4_2 (kp (p4_1 (kp (p4_0 (kp BK121.out))))))))⟩
    have n4_ : Aside0 (Below w.heap.size w ((((w20.setCell ⟨gb121, 0, none⟩ (.int .i64 t117)).setCell ⟨gb121, 1, none⟩ (.int .i64 t119)).setCell ⟨gb121, 2, none⟩ (.int .i64 0)).setCell ⟨gb121, 3, none⟩ (.int .i64 0))) := ⟨bl HB.out⟩
    (try clear BK112)
    (try clear BK113)
    (try clear BK114)
    (try clear BK121)
    (try clear HB)
    generalize ((((w20.setCell ⟨gb121, 0, none⟩ (.int .i64 t117)).setCell ⟨gb121, 1, none⟩ (.int .i64 t119)).setCell ⟨gb121, 2, none⟩ (.int .i64 0)).setCell ⟨gb121, 3, none⟩ (.int .i64 0)) = w25 at n0_ n1_ n2_ n3_ n4_ ⊢
    have BK112 := n0_
    have BK113 := n1_
    have BK114 := n2_
    have BK121 := n3_
    have HB := n4_
    clear n0_ n1_ n2_ n3_ n4_
    (try (rw [drewN_self w25]; generalize hq_ : World.drewN w25 _ = w25; replace BK112 := Aside0.mk (kq hq_ BK112.out); replace BK113 := Aside0.mk (kq hq_ BK113.out); replace BK114 := Aside0.mk (kq hq_ BK114.out); replace BK121 := Aside0.mk (kq hq_ BK121.out); replace HB := Aside0.mk (bq hq_ HB.out); clear hq_))
    replace BK112 := Aside0.mk (blk_drew BK112.out)
    replace BK113 := Aside0.mk (blk_drew BK113.out)
    replace BK114 := Aside0.mk (blk_drew BK114.out)
    replace BK121 := Aside0.mk (blk_drew BK121.out)
    replace HB := Aside0.mk (below_drew1 HB.out)
    refine start_ (n := 13) (S := fun w' => w'.cell? ⟨gb112, 0, none⟩ = some (.int .i64 a0_0) ∧ w'.cell? ⟨gb112, 1, none⟩ = some (.int .i64 a0_1) ∧ w'.cell? ⟨gb112, 2, none⟩ = some (.int .i64 a0_2) ∧ w'.cell? ⟨gb112, 3, none⟩ = some (.int .i64 a0_3) ∧ w'.cell? ⟨gb113, 0, none⟩ = some (.int .i64 a1_0) ∧ w'.cell? ⟨gb113, 1, none⟩ = some (.int .i64 a1_1) ∧ w'.cell? ⟨gb113, 2, none⟩ = some (.int .i64 a1_2) ∧ w'.cell? ⟨gb113, 3, none⟩ = some (.int .i64 a1_3)) (ds := []) #[false, false, false, false, false, false, false, false, false, false, false, false, false] (by kernel_rfl) rfl rfl ⟨(blk_cell BK112.out 0).trans rfl, (blk_cell BK112.out 1).trans rfl, (blk_cell BK112.out 2).trans rfl, (blk_cell BK112.out 3).trans rfl, (blk_cell BK113.out 0).trans rfl, (blk_cell BK113.out 1).trans rfl, (blk_cell BK113.out 2).trans rfl, (blk_cell BK113.out 3).trans rfl⟩ (fun hHeld => ?_); refine with_tabW frac_loose_times.tab8 frac_loose_times.bits8 (fun HT_ HW_ => ?_)
    generalize w25.drew = w26 at BK112 BK113 BK114 BK121 HB hHeld ⊢
    refine pure_ (i := 0) (N := some 54) (v := ?_) (a' := ?_) #[true, false, false, false, false, false, false, false, false, false, false, false, false] rfl rfl (any_of HT_.out (by kernel_rfl)) (fun _ _ _ h => h) (Or.inl ⟨by rfl, ?_⟩) ?_ ?_
    rotate_left
    ·intro w'
     go_simp
     with_reducible rfl
    rotate_left
    ·simp only [Act.put, List.setIfInBounds_toArray, List.set_cons_zero, List.set_cons_succ, i64_w, i32_w]
     rfl
    refine pure_ (i := 1) (N := some 55) (v := ?_) (a' := ?_) #[true, true, false, false, false, false, false, false, false, false, false, false, false] rfl rfl (any_of HT_.out (by kernel_rfl)) (fun _ _ _ h => h) (Or.inl ⟨by rfl, ?_⟩) ?_ ?_
    rotate_left
    ·intro w'
     go_simp
     with_reducible rfl
    rotate_left
    ·simp only [Act.put, List.setIfInBounds_toArray, List.set_cons_zero, List.set_cons_succ, i64_w, i32_w]
     rfl
    refine pure_ (i := 2) (N := some 56) (v := ?_) (a' := ?_) #[true, true, true, false, false, false, false, false, false, false, false, false, false] rfl rfl (any_of HT_.out (by kernel_rfl)) (fun _ _ _ h => h) (Or.inl ⟨by rfl, ?_⟩) ?_ ?_
    rotate_left
    ·intro w'
     go_simp
     with_reducible rfl
    rotate_left
    ·simp only [Act.put, List.setIfInBounds_toArray, List.set_cons_zero, List.set_cons_succ, i64_w, i32_w]
     rfl
    refine pure_ (i := 3) (N := some 57) (v := ?_) (a' := ?_) #[true, true, true, true, false, false, false, false, false, false, false, false, false] rfl rfl (any_of HT_.out (by kernel_rfl)) (fun _ _ _ h => h) (Or.inl ⟨by rfl, ?_⟩) ?_ ?_
    rotate_left
    ·intro w'
     go_simp
     with_reducible rfl
    rotate_left
    ·simp only [Act.put, List.setIfInBounds_toArray, List.set_cons_zero, List.set_cons_succ, i64_w, i32_w]
     rfl
    refine pure_ (i := 5) (N := some 59) (v := ?_) (a' := ?_) #[true, true, true, true, false, true, false, false, false, false, false, false, false] rfl rfl (any_of HT_.out (by kernel_rfl)) (fun _ _ _ h => h) (Or.inl ⟨by rfl, ?_⟩) ?_ ?_
    rotate_left
    ·intro w'
     go_simp
     with_reducible rfl
    rotate_left
    ·simp only [Act.put, List.setIfInBounds_toArray, List.set_cons_zero, List.set_cons_succ, i64_w, i32_w]
     rfl
    refine pure_ (i := 6) (N := some 60) (v := ?_) (a' := ?_) #[true, true, true, true, false, true, true, false, false, false, false, false, false] rfl rfl (any_of HT_.out (by kernel_rfl)) (fun _ _ _ h => h) (Or.inl ⟨by rfl, ?_⟩) ?_ ?_
    rotate_left
    ·intro w'
     go_simp
     with_reducible rfl
    rotate_left
    ·simp only [Act.put, List.setIfInBounds_toArray, List.set_cons_zero, List.set_cons_succ, i64_w, i32_w]
     rfl
    refine pure_ (i := 7) (N := some 61) (v := ?_) (a' := ?_) #[true, true, true, true, false, true, true, true, false, false, false, false, false] rfl rfl (any_of HT_.out (by kernel_rfl)) (fun _ _ _ h => h) (Or.inl ⟨by rfl, ?_⟩) ?_ ?_
    rotate_left
    ·intro w'
     go_simp
     with_reducible rfl
    rotate_left
    ·simp only [Act.put, List.setIfInBounds_toArray, List.set_cons_zero, List.set_cons_succ, i64_w, i32_w]
     rfl
    refine pure_ (i := 10) (N := some 64) (v := ?_) (a' := ?_) #[true, true, true, true, false, true, true, true, false, false, true, false, false] rfl rfl (any_of HT_.out (by kernel_rfl)) (fun _ _ _ h => h) (Or.inl ⟨by rfl, ?_⟩) ?_ ?_
    rotate_left
    ·intro w'
     go_simp
     with_reducible rfl
    rotate_left
    ·simp only [Act.put, List.setIfInBounds_toArray, List.set_cons_zero, List.set_cons_succ, i64_w, i32_w]
     rfl
    refine take_ (i := 4) (N := some 58) (v := ?_) (a' := ?_) #[true, true, true, true, true, true, true, true, false, false, true, false, false] rfl rfl (take_ofW HT_.out HW_.out (by kernel_rfl)) (fun _ _ _ h => h) (Or.inl ⟨by rfl, ?_⟩) hHeld ?_ ?_
    rotate_left
    ·rintro w' ⟨s0, s1, s2, s3, s4, s5, s6, s7⟩
     go_simp
     with_reducible rfl
    rotate_left
    ·simp only [Act.put, List.setIfInBounds_toArray, List.set_cons_zero, List.set_cons_succ, i64_w, i32_w]
     rfl
    refine take_ (i := 8) (N := some 62) (v := ?_) (a' := ?_) #[true, true, true, true, true, true, true, true, true, false, true, false, false] rfl rfl (take_ofW HT_.out HW_.out (by kernel_rfl)) (fun _ _ _ h => h) (Or.inl ⟨by rfl, ?_⟩) hHeld ?_ ?_
    rotate_left
    ·rintro w' ⟨s0, s1, s2, s3, s4, s5, s6, s7⟩
     go_simp
     with_reducible rfl
    rotate_left
    ·simp only [Act.put, List.setIfInBounds_toArray, List.set_cons_zero, List.set_cons_succ, i64_w, i32_w]
     rfl
    refine pure_ (i := 9) (N := some 63) (v := ?_) (a' := ?_) #[true, true, true, true, true, true, true, true, true, true, true, false, false] rfl rfl (any_of HT_.out (by kernel_rfl)) (fun _ _ _ h => h) (Or.inl ⟨by rfl, ?_⟩) ?_ ?_
    rotate_left
    ·intro w'
     go_simp
     with_reducible rfl
    rotate_left
    ·simp only [Act.put, List.setIfInBounds_toArray, List.set_cons_zero, List.set_cons_succ, i64_w, i32_w]
     rfl
    refine pure_ (i := 11) (N := some 65) (v := ?_) (a' := ?_) #[true, true, true, true, true, true, true, true, true, true, true, true, false] rfl rfl (any_of HT_.out (by kernel_rfl)) (fun _ _ _ h => h) (Or.inl ⟨by rfl, ?_⟩) ?_ ?_
    rotate_left
    ·intro w'
     go_simp
     with_reducible rfl
    rotate_left
    ·simp only [Act.put, List.setIfInBounds_toArray, List.set_cons_zero, List.set_cons_succ, i64_w, i32_w]
     rfl
    refine one_ (i := 12) (N := none) #[true, true, true, true, true, true, true, true, true, true, true, true, true] rfl rfl (one_of HT_.out (by kernel_rfl)) (by decide) (fun K hK => ?_)
    have hs27 : w26.cell? ⟨gb121, 2, none⟩ = some (.int .i64 0) := (blk_cell BK121.out 2).trans rfl
    have hfs27 := blk_frozen BK121.out 2
    have hns27_0 := NB112_121.out
    have hns27_1 := NB113_121.out
    have hns27_2 := NB114_121.out
    have hms27_0 := NB121_112.out
    have hms27_1 := NB121_113.out
    have hms27_2 := NB121_114.out
    refine skip_ (w1 := ?_) (by rfl) rfl ?_ ?_
    rotate_left
    ·go_simp
     rfl
    refine hK.out _ _ ⟨((cell_far (p := ⟨gb121, _, none⟩) NB112_121.out _).trans (hHeld.1)), ((cell_far (p := ⟨gb121, _, none⟩) NB112_121.out _).trans (hHeld.2.1)), ((cell_far (p := ⟨gb121, _, none⟩) NB112_121.out _).trans (hHeld.2.2.1)), ((cell_far (p := ⟨gb121, _, none⟩) NB112_121.out _).trans (hHeld.2.2.2.1)), ((cell_far (p := ⟨gb121, _, none⟩) NB113_121.out _).trans (hHeld.2.2.2.2.1)), ((cell_far (p := ⟨gb121, _, none⟩) NB113_121.out _).trans (hHeld.2.2.2.2.2.1)), ((cell_far (p := ⟨gb121, _, none⟩) NB113_121.out _).trans (hHeld.2.2.2.2.2.2.1)), ((cell_far (p := ⟨gb121, _, none⟩) NB113_121.out _).trans (hHeld.2.2.2.2.2.2.2))⟩ (fun hHeld => ?_)
    clear hK K
    refine done_ (done_of HT_.out (by kernel_rfl)) ?_
    try go_wp2
    rw [rounds_succ]
    have n0_ : Aside0 ((w26.setCell ⟨gb121, 2, none⟩ (.int .i64 (wrap64 (a0_2 + a1_2)))).heap[gb112]? = some (.cells #[.int .i64 a0_0, .int .i64 a0_1, .int .i64 a0_2, .int .i64 a0_3] 100 (0, 0))) := ⟨kp BK112.out⟩
    have n1_ : Aside0 ((w26.setCell ⟨gb121, 2, none⟩ (.int .i64 (wrap64 (a0_2 + a1_2)))).heap[gb113]? = some (.cells #[.int .i64 a1_0, .int .i64 a1_1, .int .i64 a1_2, .int .i64 a1_3] 100 (0, 0))) := ⟨kp BK113.out⟩
    have n2_ : Aside0 ((w26.setCell ⟨gb121, 2, none⟩ (.int .i64 (wrap64 (a0_2 + a1_2)))).heap[gb114]? = some (.cells #[.int .i64 0, .int .i64 0, .int .i64 0, .int .i64 0] 100 (0, 0))) := ⟨kp BK114.out⟩
    have n3_ : Aside0 ((w26.setCell ⟨gb121, 2, none⟩ (.int .i64 (wrap64 (a0_2 + a1_2)))).heap[gb121]? = some (.cells #[.int .i64 t117, .int .i64 t119, .int .i64 (wrap64 (a0_2 + a1_2)), .int .i64 0] 100 (0, 0))) := ⟨kp (p4_2 (kp BK121.out))⟩
    have n4_ : Aside0 (Below w.heap.size w (w26.setCell ⟨gb121, 2, none⟩ (.int .i64 (wrap64 (a0_2 + a1_2))))) := ⟨bl HB.out⟩
    (try clear BK112)
    (try clear BK113)
    (try clear BK114)
    (try clear BK121)
    (try clear HB)
    generalize (w26.setCell ⟨gb121, 2, none⟩ (.int .i64 (wrap64 (a0_2 + a1_2)))) = w28 at n0_ n1_ n2_ n3_ n4_ ⊢
    have BK112 := n0_
    have BK113 := n1_
    have BK114 := n2_
    have BK121 := n3_
    have HB := n4_
    clear n0_ n1_ n2_ n3_ n4_
    (try (rw [drewN_self w28]; generalize hq_ : World.drewN w28 _ = w28; replace BK112 := Aside0.mk (kq hq_ BK112.out); replace BK113 := Aside0.mk (kq hq_ BK113.out); replace BK114 := Aside0.mk (kq hq_ BK114.out); replace BK121 := Aside0.mk (kq hq_ BK121.out); replace HB := Aside0.mk (bq hq_ HB.out); clear hq_))
    try go_wp2
    (try (rw [drewN_self w28]; generalize hq_ : World.drewN w28 _ = w28; replace BK112 := Aside0.mk (kq hq_ BK112.out); replace BK113 := Aside0.mk (kq hq_ BK113.out); replace BK114 := Aside0.mk (kq hq_ BK114.out); replace BK121 := Aside0.mk (kq hq_ BK121.out); replace HB := Aside0.mk (bq hq_ HB.out); clear hq_))
    replace BK112 := Aside0.mk (blk_drew BK112.out)
    replace BK113 := Aside0.mk (blk_drew BK113.out)
    replace BK114 := Aside0.mk (blk_drew BK114.out)
    replace BK121 := Aside0.mk (blk_drew BK121.out)
    replace HB := Aside0.mk (below_drew1 HB.out)
    refine start_ (n := 13) (S := fun w' => w'.cell? ⟨gb112, 0, none⟩ = some (.int .i64 a0_0) ∧ w'.cell? ⟨gb112, 1, none⟩ = some (.int .i64 a0_1) ∧ w'.cell? ⟨gb112, 2, none⟩ = some (.int .i64 a0_2) ∧ w'.cell? ⟨gb112, 3, none⟩ = some (.int .i64 a0_3) ∧ w'.cell? ⟨gb113, 0, none⟩ = some (.int .i64 a1_0) ∧ w'.cell? ⟨gb113, 1, none⟩ = some (.int .i64 a1_1) ∧ w'.cell? ⟨gb113, 2, none⟩ = some (.int .i64 a1_2) ∧ w'.cell? ⟨gb113, 3, none⟩ = some (.int .i64 a1_3)) (ds := []) #[false, false, false, false, false, false, false, false, false, false, false, false, false] (by kernel_rfl) rfl rfl ⟨(blk_cell BK112.out 0).trans rfl, (blk_cell BK112.out 1).trans rfl, (blk_cell BK112.out 2).trans rfl, (blk_cell BK112.out 3).trans rfl, (blk_cell BK113.out 0).trans rfl, (blk_cell BK113.out 1).trans rfl, (blk_cell BK113.out 2).trans rfl, (blk_cell BK113.out 3).trans rfl⟩ (fun hHeld => ?_); refine with_tabW frac_loose_times.tab8 frac_loose_times.bits8 (fun HT_ HW_ => ?_)
    generalize w28.drew = w29 at BK112 BK113 BK114 BK121 HB hHeld ⊢
    refine pure_ (i := 0) (N := some 54) (v := ?_) (a' := ?_) #[true, false, false, false, false, false, false, false, false, false, false, false, false] rfl rfl (any_of HT_.out (by kernel_rfl)) (fun _ _ _ h => h) (Or.inl ⟨by rfl, ?_⟩) ?_ ?_
    rotate_left
    ·intro w'
     go_simp
     with_reducible rfl
    rotate_left
    ·simp only [Act.put, List.setIfInBounds_toArray, List.set_cons_zero, List.set_cons_succ, i64_w, i32_w]
     rfl
    refine pure_ (i := 1) (N := some 55) (v := ?_) (a' := ?_) #[true, true, false, false, false, false, false, false, false, false, false, false, false] rfl rfl (any_of HT_.out (by kernel_rfl)) (fun _ _ _ h => h) (Or.inl ⟨by rfl, ?_⟩) ?_ ?_
    rotate_left
    ·intro w'
     go_simp
     with_reducible rfl
    rotate_left
    ·simp only [Act.put, List.setIfInBounds_toArray, List.set_cons_zero, List.set_cons_succ, i64_w, i32_w]
     rfl
    refine pure_ (i := 2) (N := some 56) (v := ?_) (a' := ?_) #[true, true, true, false, false, false, false, false, false, false, false, false, false] rfl rfl (any_of HT_.out (by kernel_rfl)) (fun _ _ _ h => h) (Or.inl ⟨by rfl, ?_⟩) ?_ ?_
    rotate_left
    ·intro w'
     go_simp
     with_reducible rfl
    rotate_left
    ·simp only [Act.put, List.setIfInBounds_toArray, List.set_cons_zero, List.set_cons_succ, i64_w, i32_w]
     rfl
    refine pure_ (i := 3) (N := some 57) (v := ?_) (a' := ?_) #[true, true, true, true, false, false, false, false, false, false, false, false, false] rfl rfl (any_of HT_.out (by kernel_rfl)) (fun _ _ _ h => h) (Or.inl ⟨by rfl, ?_⟩) ?_ ?_
    rotate_left
    ·intro w'
     go_simp
     with_reducible rfl
    rotate_left
    ·simp only [Act.put, List.setIfInBounds_toArray, List.set_cons_zero, List.set_cons_succ, i64_w, i32_w]
     rfl
    refine pure_ (i := 5) (N := some 59) (v := ?_) (a' := ?_) #[true, true, true, true, false, true, false, false, false, false, false, false, false] rfl rfl (any_of HT_.out (by kernel_rfl)) (fun _ _ _ h => h) (Or.inl ⟨by rfl, ?_⟩) ?_ ?_
    rotate_left
    ·intro w'
     go_simp
     with_reducible rfl
    rotate_left
    ·simp only [Act.put, List.setIfInBounds_toArray, List.set_cons_zero, List.set_cons_succ, i64_w, i32_w]
     rfl
    refine pure_ (i := 6) (N := some 60) (v := ?_) (a' := ?_) #[true, true, true, true, false, true, true, false, false, false, false, false, false] rfl rfl (any_of HT_.out (by kernel_rfl)) (fun _ _ _ h => h) (Or.inl ⟨by rfl, ?_⟩) ?_ ?_
    rotate_left
    ·intro w'
     go_simp
     with_reducible rfl
    rotate_left
    ·simp only [Act.put, List.setIfInBounds_toArray, List.set_cons_zero, List.set_cons_succ, i64_w, i32_w]
     rfl
    refine pure_ (i := 7) (N := some 61) (v := ?_) (a' := ?_) #[true, true, true, true, false, true, true, true, false, false, false, false, false] rfl rfl (any_of HT_.out (by kernel_rfl)) (fun _ _ _ h => h) (Or.inl ⟨by rfl, ?_⟩) ?_ ?_
    rotate_left
    ·intro w'
     go_simp
     with_reducible rfl
    rotate_left
    ·simp only [Act.put, List.setIfInBounds_toArray, List.set_cons_zero, List.set_cons_succ, i64_w, i32_w]
     rfl
    refine pure_ (i := 10) (N := some 64) (v := ?_) (a' := ?_) #[true, true, true, true, false, true, true, true, false, false, true, false, false] rfl rfl (any_of HT_.out (by kernel_rfl)) (fun _ _ _ h => h) (Or.inl ⟨by rfl, ?_⟩) ?_ ?_
    rotate_left
    ·intro w'
     go_simp
     with_reducible rfl
    rotate_left
    ·simp only [Act.put, List.setIfInBounds_toArray, List.set_cons_zero, List.set_cons_succ, i64_w, i32_w]
     rfl
    refine take_ (i := 4) (N := some 58) (v := ?_) (a' := ?_) #[true, true, true, true, true, true, true, true, false, false, true, false, false] rfl rfl (take_ofW HT_.out HW_.out (by kernel_rfl)) (fun _ _ _ h => h) (Or.inl ⟨by rfl, ?_⟩) hHeld ?_ ?_
    rotate_left
    ·rintro w' ⟨s0, s1, s2, s3, s4, s5, s6, s7⟩
     go_simp
     with_reducible rfl
    rotate_left
    ·simp only [Act.put, List.setIfInBounds_toArray, List.set_cons_zero, List.set_cons_succ, i64_w, i32_w]
     rfl
    refine take_ (i := 8) (N := some 62) (v := ?_) (a' := ?_) #[true, true, true, true, true, true, true, true, true, false, true, false, false] rfl rfl (take_ofW HT_.out HW_.out (by kernel_rfl)) (fun _ _ _ h => h) (Or.inl ⟨by rfl, ?_⟩) hHeld ?_ ?_
    rotate_left
    ·rintro w' ⟨s0, s1, s2, s3, s4, s5, s6, s7⟩
     go_simp
     with_reducible rfl
    rotate_left
    ·simp only [Act.put, List.setIfInBounds_toArray, List.set_cons_zero, List.set_cons_succ, i64_w, i32_w]
     rfl
    refine pure_ (i := 9) (N := some 63) (v := ?_) (a' := ?_) #[true, true, true, true, true, true, true, true, true, true, true, false, false] rfl rfl (any_of HT_.out (by kernel_rfl)) (fun _ _ _ h => h) (Or.inl ⟨by rfl, ?_⟩) ?_ ?_
    rotate_left
    ·intro w'
     go_simp
     with_reducible rfl
    rotate_left
    ·simp only [Act.put, List.setIfInBounds_toArray, List.set_cons_zero, List.set_cons_succ, i64_w, i32_w]
     rfl
    refine pure_ (i := 11) (N := some 65) (v := ?_) (a' := ?_) #[true, true, true, true, true, true, true, true, true, true, true, true, false] rfl rfl (any_of HT_.out (by kernel_rfl)) (fun _ _ _ h => h) (Or.inl ⟨by rfl, ?_⟩) ?_ ?_
    rotate_left
    ·intro w'
     go_simp
     with_reducible rfl
    rotate_left
    ·simp only [Act.put, List.setIfInBounds_toArray, List.set_cons_zero, List.set_cons_succ, i64_w, i32_w]
     rfl
    refine one_ (i := 12) (N := none) #[true, true, true, true, true, true, true, true, true, true, true, true, true] rfl rfl (one_of HT_.out (by kernel_rfl)) (by decide) (fun K hK => ?_)
    have hs30 : w29.cell? ⟨gb121, 3, none⟩ = some (.int .i64 0) := (blk_cell BK121.out 3).trans rfl
    have hfs30 := blk_frozen BK121.out 3
    have hns30_0 := NB112_121.out
    have hns30_1 := NB113_121.out
    have hns30_2 := NB114_121.out
    have hms30_0 := NB121_112.out
    have hms30_1 := NB121_113.out
    have hms30_2 := NB121_114.out
    refine skip_ (w1 := ?_) (by rfl) rfl ?_ ?_
    rotate_left
    ·go_simp
     rfl
    refine hK.out _ _ ⟨((cell_far (p := ⟨gb121, _, none⟩) NB112_121.out _).trans (hHeld.1)), ((cell_far (p := ⟨gb121, _, none⟩) NB112_121.out _).trans (hHeld.2.1)), ((cell_far (p := ⟨gb121, _, none⟩) NB112_121.out _).trans (hHeld.2.2.1)), ((cell_far (p := ⟨gb121, _, none⟩) NB112_121.out _).trans (hHeld.2.2.2.1)), ((cell_far (p := ⟨gb121, _, none⟩) NB113_121.out _).trans (hHeld.2.2.2.2.1)), ((cell_far (p := ⟨gb121, _, none⟩) NB113_121.out _).trans (hHeld.2.2.2.2.2.1)), ((cell_far (p := ⟨gb121, _, none⟩) NB113_121.out _).trans (hHeld.2.2.2.2.2.2.1)), ((cell_far (p := ⟨gb121, _, none⟩) NB113_121.out _).trans (hHeld.2.2.2.2.2.2.2))⟩ (fun hHeld => ?_)
    clear hK K
    refine done_ (done_of HT_.out (by kernel_rfl)) ?_
    try go_wp2
    rw [rounds_succ]
    have n0_ : Aside0 ((w29.setCell ⟨gb121, 3, none⟩ (.int .i64 (wrap64 (a0_3 + a1_3)))).heap[gb112]? = some (.cells #[.int .i64 a0_0, .int .i64 a0_1, .int .i64 a0_2, .int .i64 a0_3] 100 (0, 0))) := ⟨kp BK112.out⟩
    have n1_ : Aside0 ((w29.setCell ⟨gb121, 3, none⟩ (.int .i64 (wrap64 (a0_3 + a1_3)))).heap[gb113]? = some (.cells #[.int .i64 a1_0, .int .i64 a1_1, .int .i64 a1_2, .int .i64 a1_3] 100 (0, 0))) := ⟨kp BK113.out⟩
    have n2_ : Aside0 ((w29.setCell ⟨gb121, 3, none⟩ (.int .i64 (wrap64 (a0_3 + a1_3)))).heap[gb114]? = some (.cells #[.int .i64 0, .int .i64 0, .int .i64 0, .int .i64 0] 100 (0, 0))) := ⟨kp BK114.out⟩
    have n3_ : Aside0 ((w29.setCell ⟨gb121, 3, none⟩ (.int .i64 (wrap64 (a0_3 + a1_3)))).heap[gb121]? = some (.cells #[.int .i64 t117, .int .i64 t119, .int .i64 (wrap64 (a0_2 + a1_2)), .int .i64 (wrap64 (a0_3 + a1_3))] 100 (0, 0))) := ⟨kp (p4_3 (kp BK121.out))⟩
    have n4_ : Aside0 (Below w.heap.size w (w29.setCell ⟨gb121, 3, none⟩ (.int .i64 (wrap64 (a0_3 + a1_3))))) := ⟨bl HB.out⟩
    (try clear BK112)
    (try clear BK113)
    (try clear BK114)
    (try clear BK121)
    (try clear HB)
    generalize (w29.setCell ⟨gb121, 3, none⟩ (.int .i64 (wrap64 (a0_3 + a1_3)))) = w31 at n0_ n1_ n2_ n3_ n4_ ⊢
    have BK112 := n0_
    have BK113 := n1_
    have BK114 := n2_
    have BK121 := n3_
    have HB := n4_
    clear n0_ n1_ n2_ n3_ n4_
    (try (rw [drewN_self w31]; generalize hq_ : World.drewN w31 _ = w31; replace BK112 := Aside0.mk (kq hq_ BK112.out); replace BK113 := Aside0.mk (kq hq_ BK113.out); replace BK114 := Aside0.mk (kq hq_ BK114.out); replace BK121 := Aside0.mk (kq hq_ BK121.out); replace HB := Aside0.mk (bq hq_ HB.out); clear hq_))
    obtain ⟨hcz32_0, hcz32_1, hcz32_2, hcz32_3⟩ := hc4 BK121.out
    obtain ⟨hfz32_0, hfz32_1, hfz32_2, hfz32_3⟩ := hf4 BK121.out
    have hnb33 := NB114_112.out
    have hnc33 := NB112_114.out
    have hnb34 := NB114_113.out
    have hnc34 := NB113_114.out
    obtain ⟨hcz35_0, hcz35_1, hcz35_2, hcz35_3⟩ := hc4 BK114.out
    obtain ⟨hfz35_0, hfz35_1, hfz35_2, hfz35_3⟩ := hf4 BK114.out
    try go_wp2
    refine bodyPost_ret (results_ct rfl _ _ gb114 100 #[.int .i64 t117, .int .i64 t119, .int .i64 (wrap64 (a0_2 + a1_2)), .int .i64 (wrap64 (a0_3 + a1_3))] (0, 0) _ rfl (kp (p4_3 (kp (p4_2 (kp (p4_1 (kp (p4_0 (kp BK114.out))))))))) Tryd.underlying100 rfl (by kernel_rfl)) rfl ?_
    exact ⟨by first | rfl | (simp [errW_none, errW_some] <;> rfl) | (simp [*, errW_none, errW_some] <;> rfl), bl HB.out⟩
   ·replace c9 := Bool.eq_false_iff.mpr c9
    subst c9
    have H1 : (some (t117, t119, wrap64 (a0_2 + a1_2), wrap64 (a0_3 + a1_3), false)) = some (r1, r2, r3, r4, r5) := by rw [if_neg (show ¬ (false = true) by decide)] at H; exact H
    clear H
    have H := H1
    clear H1
    simp only [Option.some.injEq, Prod.mk.injEq] at H
    obtain ⟨rfl, rfl, rfl, rfl, rfl⟩ := H
    go_enter Tryd.func67, Tryd.ntmps67
    try go_wp2_with (first | ((with_reducible refine gate_dst (N := 2) rfl ?_); refine box_event ?hg (N := 2) ?hd (cs := #[.int .i64 a0_0, .int .i64 a0_1, .int .i64 a0_2, .int .i64 a0_3]) (t := 100) ?hr ?_; (case hd => rfl); (case hg => rfl); (case hr => first | (go_simp; done) | (go_simp; rfl)); intro gb112 hg w36 hbox hb; have n0_ := sb HB hb; have n1_ := Aside0.mk (hbox); have n2_ := Aside0.mk ((by rw [hg]; exact (below_size (bl HB.out)) : w.heap.size ≤ gb112)); have n3_ := Aside0.mk ((by rw [hg]; exact (below_size (bl HB.out)) : w.heap.size ≤ gb112)); clear HB; have HB := n0_; have BK112 := n1_; have GW112 := n2_; have GE112 := n3_; clear n0_ n1_ n2_ n3_; clear hb hbox hg) | ((with_reducible refine gate_dst (N := 3) rfl ?_); refine box_event ?hg (N := 3) ?hd (cs := #[.int .i64 a1_0, .int .i64 a1_1, .int .i64 a1_2, .int .i64 a1_3]) (t := 100) ?hr ?_; (case hd => rfl); (case hg => rfl); (case hr => first | (go_simp; done) | (go_simp; rfl)); intro gb113 hg w37 hbox hb; have n0_ := kb BK112 hb; have n1_ := sb HB hb; have n2_ := Aside0.mk (hbox); have n3_ := Aside0.mk ((by rw [hg]; exact (below_size (bl HB.out)) : w.heap.size ≤ gb113)); have n4_ := Aside0.mk ((by rw [hg]; exact (below_size (bl HB.out)) : w.heap.size ≤ gb113)); have n5_ := Aside0.mk ((by rw [hg]; exact Nat.ne_of_lt (blk_lt (kp BK112.out)) : gb112 ≠ gb113)); have n6_ := Aside0.mk ((by rw [hg]; exact Nat.ne_of_gt (blk_lt (kp BK112.out)) : gb113 ≠ gb112)); clear BK112; clear HB; have BK112 := n0_; have HB := n1_; have BK113 := n2_; have GW113 := n3_; have GE113 := n4_; have NB112_113 := n5_; have NB113_112 := n6_; clear n0_ n1_ n2_ n3_ n4_ n5_ n6_; clear hb hbox hg) | ((with_reducible refine gate_dst (N := 4) rfl ?_); refine box_event ?hg (N := 4) ?hd (cs := #[.int .i64 0, .int .i64 0, .int .i64 0, .int .i64 0]) (t := 100) ?hr ?_; (case hd => rfl); (case hg => rfl); (case hr => first | (go_simp; done) | (go_simp; rfl)); intro gb114 hg w38 hbox hb; have n0_ := kb BK112 hb; have n1_ := kb BK113 hb; have n2_ := sb HB hb; have n3_ := Aside0.mk (hbox); have n4_ := Aside0.mk ((by rw [hg]; exact (below_size (bl HB.out)) : w.heap.size ≤ gb114)); have n5_ := Aside0.mk ((by rw [hg]; exact (below_size (bl HB.out)) : w.heap.size ≤ gb114)); have n6_ := Aside0.mk ((by rw [hg]; exact Nat.ne_of_lt (blk_lt (kp BK112.out)) : gb112 ≠ gb114)); have n7_ := Aside0.mk ((by rw [hg]; exact Nat.ne_of_gt (blk_lt (kp BK112.out)) : gb114 ≠ gb112)); have n8_ := Aside0.mk ((by rw [hg]; exact Nat.ne_of_lt (blk_lt (kp BK113.out)) : gb113 ≠ gb114)); have n9_ := Aside0.mk ((by rw [hg]; exact Nat.ne_of_gt (blk_lt (kp BK113.out)) : gb114 ≠ gb113)); clear BK112; clear BK113; clear HB; have BK112 := n0_; have BK113 := n1_; have HB := n2_; have BK114 := n3_; have GW114 := n4_; have GE114 := n5_; have NB112_114 := n6_; have NB114_112 := n7_; have NB113_114 := n8_; have NB114_113 := n9_; clear n0_ n1_ n2_ n3_ n4_ n5_ n6_ n7_ n8_ n9_; clear hb hbox hg))
    (try (rw [drewN_self w38]; generalize hq_ : World.drewN w38 _ = w38; replace BK112 := Aside0.mk (kq hq_ BK112.out); replace BK113 := Aside0.mk (kq hq_ BK113.out); replace BK114 := Aside0.mk (kq hq_ BK114.out); replace HB := Aside0.mk (bq hq_ HB.out); clear hq_))
    replace BK112 := Aside0.mk (blk_drew BK112.out)
    replace BK113 := Aside0.mk (blk_drew BK113.out)
    replace BK114 := Aside0.mk (blk_drew BK114.out)
    replace HB := Aside0.mk (below_drew1 HB.out)
    refine start_ (n := 12) (S := fun w' => w'.cell? ⟨gb112, 0, none⟩ = some (.int .i64 a0_0) ∧ w'.cell? ⟨gb112, 1, none⟩ = some (.int .i64 a0_1) ∧ w'.cell? ⟨gb112, 2, none⟩ = some (.int .i64 a0_2) ∧ w'.cell? ⟨gb112, 3, none⟩ = some (.int .i64 a0_3) ∧ w'.cell? ⟨gb113, 0, none⟩ = some (.int .i64 a1_0) ∧ w'.cell? ⟨gb113, 1, none⟩ = some (.int .i64 a1_1) ∧ w'.cell? ⟨gb113, 2, none⟩ = some (.int .i64 a1_2) ∧ w'.cell? ⟨gb113, 3, none⟩ = some (.int .i64 a1_3)) (ds := []) #[false, false, false, false, false, false, false, false, false, false, false, false] (by kernel_rfl) rfl rfl ⟨(blk_cell BK112.out 0).trans rfl, (blk_cell BK112.out 1).trans rfl, (blk_cell BK112.out 2).trans rfl, (blk_cell BK112.out 3).trans rfl, (blk_cell BK113.out 0).trans rfl, (blk_cell BK113.out 1).trans rfl, (blk_cell BK113.out 2).trans rfl, (blk_cell BK113.out 3).trans rfl⟩ (fun hHeld => ?_); refine with_tabW frac_loose_times.tab1 frac_loose_times.bits1 (fun HT_ HW_ => ?_)
    generalize w38.drew = w39 at BK112 BK113 BK114 HB hHeld ⊢
    refine pure_ (i := 0) (N := some 14) (v := ?_) (a' := ?_) #[true, false, false, false, false, false, false, false, false, false, false, false] rfl rfl (any_of HT_.out (by kernel_rfl)) (fun _ _ _ h => h) (Or.inl ⟨by rfl, ?_⟩) ?_ ?_
    rotate_left
    ·intro w'
     go_simp
     with_reducible rfl
    rotate_left
    ·simp only [Act.put, List.setIfInBounds_toArray, List.set_cons_zero, List.set_cons_succ, i64_w, i32_w]
     rfl
    refine pure_ (i := 2) (N := some 16) (v := ?_) (a' := ?_) #[true, false, true, false, false, false, false, false, false, false, false, false] rfl rfl (any_of HT_.out (by kernel_rfl)) (fun _ _ _ h => h) (Or.inl ⟨by rfl, ?_⟩) ?_ ?_
    rotate_left
    ·intro w'
     go_simp
     with_reducible rfl
    rotate_left
    ·simp only [Act.put, List.setIfInBounds_toArray, List.set_cons_zero, List.set_cons_succ, i64_w, i32_w]
     rfl
    refine pure_ (i := 5) (N := some 19) (v := ?_) (a' := ?_) #[true, false, true, false, false, true, false, false, false, false, false, false] rfl rfl (any_of HT_.out (by kernel_rfl)) (fun _ _ _ h => h) (Or.inl ⟨by rfl, ?_⟩) ?_ ?_
    rotate_left
    ·intro w'
     go_simp
     with_reducible rfl
    rotate_left
    ·simp only [Act.put, List.setIfInBounds_toArray, List.set_cons_zero, List.set_cons_succ, i64_w, i32_w]
     rfl
    refine pure_ (i := 7) (N := some 21) (v := ?_) (a' := ?_) #[true, false, true, false, false, true, false, true, false, false, false, false] rfl rfl (any_of HT_.out (by kernel_rfl)) (fun _ _ _ h => h) (Or.inl ⟨by rfl, ?_⟩) ?_ ?_
    rotate_left
    ·intro w'
     go_simp
     with_reducible rfl
    rotate_left
    ·simp only [Act.put, List.setIfInBounds_toArray, List.set_cons_zero, List.set_cons_succ, i64_w, i32_w]
     rfl
    refine take_ (i := 1) (N := some 15) (v := ?_) (a' := ?_) #[true, true, true, false, false, true, false, true, false, false, false, false] rfl rfl (take_ofW HT_.out HW_.out (by kernel_rfl)) (fun _ _ _ h => h) (Or.inl ⟨by rfl, ?_⟩) hHeld ?_ ?_
    rotate_left
    ·rintro w' ⟨s0, s1, s2, s3, s4, s5, s6, s7⟩
     go_simp
     with_reducible rfl
    rotate_left
    ·simp only [Act.put, List.setIfInBounds_toArray, List.set_cons_zero, List.set_cons_succ, i64_w, i32_w]
     rfl
    refine take_ (i := 3) (N := some 17) (v := ?_) (a' := ?_) #[true, true, true, true, false, true, false, true, false, false, false, false] rfl rfl (take_ofW HT_.out HW_.out (by kernel_rfl)) (fun _ _ _ h => h) (Or.inl ⟨by rfl, ?_⟩) hHeld ?_ ?_
    rotate_left
    ·rintro w' ⟨s0, s1, s2, s3, s4, s5, s6, s7⟩
     go_simp
     with_reducible rfl
    rotate_left
    ·simp only [Act.put, List.setIfInBounds_toArray, List.set_cons_zero, List.set_cons_succ, i64_w, i32_w]
     rfl
    refine take_ (i := 6) (N := some 20) (v := ?_) (a' := ?_) #[true, true, true, true, false, true, true, true, false, false, false, false] rfl rfl (take_ofW HT_.out HW_.out (by kernel_rfl)) (fun _ _ _ h => h) (Or.inl ⟨by rfl, ?_⟩) hHeld ?_ ?_
    rotate_left
    ·rintro w' ⟨s0, s1, s2, s3, s4, s5, s6, s7⟩
     go_simp
     with_reducible rfl
    rotate_left
    ·simp only [Act.put, List.setIfInBounds_toArray, List.set_cons_zero, List.set_cons_succ, i64_w, i32_w]
     rfl
    refine take_ (i := 8) (N := some 22) (v := ?_) (a' := ?_) #[true, true, true, true, false, true, true, true, true, false, false, false] rfl rfl (take_ofW HT_.out HW_.out (by kernel_rfl)) (fun _ _ _ h => h) (Or.inl ⟨by rfl, ?_⟩) hHeld ?_ ?_
    rotate_left
    ·rintro w' ⟨s0, s1, s2, s3, s4, s5, s6, s7⟩
     go_simp
     with_reducible rfl
    rotate_left
    ·simp only [Act.put, List.setIfInBounds_toArray, List.set_cons_zero, List.set_cons_succ, i64_w, i32_w]
     rfl
    refine one_ (i := 4) (N := some 18) #[true, true, true, true, true, true, true, true, true, false, false, false] rfl rfl (one_of HT_.out (by kernel_rfl)) (by decide) (fun K hK => ?_)
    refine goes_ Tryd.func77 (by kernel_rfl) rfl #[.int .i64 a0_0, .int .i64 a1_1] (by rfl) rfl rfl (by (try simp only [List.map_toArray, List.map_cons, List.map_nil]); first | done | rfl | (simp only [List.length_drop, List.length_take]; rfl)) ?_
    with_reducible refine (whole_Gcd.calls k a0_0 a1_1 t115 _ A3.out).mono ?_
    rintro e w40 ⟨rfl, hb⟩
    refine ⟨_, rfl, ?_⟩
    replace BK112 := kb BK112 hb
    replace BK113 := kb BK113 hb
    replace BK114 := kb BK114 hb
    replace HB := sb HB hb
    (try clear hb)
    (try clear hb2)
    (try clear hk)
    (try clear hi)
    refine hK.out _ _ ⟨(blk_cell BK112.out 0).trans rfl, (blk_cell BK112.out 1).trans rfl, (blk_cell BK112.out 2).trans rfl, (blk_cell BK112.out 3).trans rfl, (blk_cell BK113.out 0).trans rfl, (blk_cell BK113.out 1).trans rfl, (blk_cell BK113.out 2).trans rfl, (blk_cell BK113.out 3).trans rfl⟩ (fun hHeld => ?_)
    clear hK K
    refine norm_ (a' := ?_) ?_ ?_
    rotate_left
    ·show Act.put _ (some 18) _ = _
     simp only [Act.put, List.setIfInBounds_toArray, List.set_cons_zero, List.set_cons_succ, i64_w, i32_w]
     rfl
    refine one_ (i := 9) (N := some 23) #[true, true, true, true, true, true, true, true, true, true, false, false] rfl rfl (one_of HT_.out (by kernel_rfl)) (by decide) (fun K hK => ?_)
    refine goes_ Tryd.func77 (by kernel_rfl) rfl #[.int .i64 a1_0, .int .i64 a0_1] (by rfl) rfl rfl (by (try simp only [List.map_toArray, List.map_cons, List.map_nil]); first | done | rfl | (simp only [List.length_drop, List.length_take]; rfl)) ?_
    with_reducible refine (whole_Gcd.calls k a1_0 a0_1 t116 _ A4.out).mono ?_
    rintro e w41 ⟨rfl, hb⟩
    refine ⟨_, rfl, ?_⟩
    replace BK112 := kb BK112 hb
    replace BK113 := kb BK113 hb
    replace BK114 := kb BK114 hb
    replace HB := sb HB hb
    (try clear hb)
    (try clear hb2)
    (try clear hk)
    (try clear hi)
    refine hK.out _ _ ⟨(blk_cell BK112.out 0).trans rfl, (blk_cell BK112.out 1).trans rfl, (blk_cell BK112.out 2).trans rfl, (blk_cell BK112.out 3).trans rfl, (blk_cell BK113.out 0).trans rfl, (blk_cell BK113.out 1).trans rfl, (blk_cell BK113.out 2).trans rfl, (blk_cell BK113.out 3).trans rfl⟩ (fun hHeld => ?_)
    clear hK K
    refine norm_ (a' := ?_) ?_ ?_
    rotate_left
    ·show Act.put _ (some 23) _ = _
     simp only [Act.put, List.setIfInBounds_toArray, List.set_cons_zero, List.set_cons_succ, i64_w, i32_w]
     rfl
    refine pure_ (i := 10) (N := some 6) (v := ?_) (a' := ?_) #[true, true, true, true, true, true, true, true, true, true, true, false] rfl rfl (any_of HT_.out (by kernel_rfl)) (fun _ _ _ h => h) (Or.inl ⟨by rfl, ?_⟩) ?_ ?_
    rotate_left
    ·intro w'
     go_simp
     with_reducible rfl
    rotate_left
    ·simp only [Act.put, List.setIfInBounds_toArray, List.set_cons_zero, List.set_cons_succ, i64_w, i32_w]
     rfl
    refine pure_ (i := 11) (N := some 7) (v := ?_) (a' := ?_) #[true, true, true, true, true, true, true, true, true, true, true, true] rfl rfl (any_of HT_.out (by kernel_rfl)) (fun _ _ _ h => h) (Or.inl ⟨by rfl, ?_⟩) ?_ ?_
    rotate_left
    ·intro w'
     go_simp
     with_reducible rfl
    rotate_left
    ·simp only [Act.put, List.setIfInBounds_toArray, List.set_cons_zero, List.set_cons_succ, i64_w, i32_w]
     rfl
    refine done_ (done_of HT_.out (by kernel_rfl)) ?_
    try go_wp2
    (try (rw [drewN_self w41]; generalize hq_ : World.drewN w41 _ = w41; replace BK112 := Aside0.mk (kq hq_ BK112.out); replace BK113 := Aside0.mk (kq hq_ BK113.out); replace BK114 := Aside0.mk (kq hq_ BK114.out); replace HB := Aside0.mk (bq hq_ HB.out); clear hq_))
    replace BK112 := Aside0.mk (blk_drew BK112.out)
    replace BK113 := Aside0.mk (blk_drew BK113.out)
    replace BK114 := Aside0.mk (blk_drew BK114.out)
    replace HB := Aside0.mk (below_drew1 HB.out)
    refine start_ (n := 14) (S := fun w' => w'.cell? ⟨gb112, 0, none⟩ = some (.int .i64 a0_0) ∧ w'.cell? ⟨gb112, 1, none⟩ = some (.int .i64 a0_1) ∧ w'.cell? ⟨gb112, 2, none⟩ = some (.int .i64 a0_2) ∧ w'.cell? ⟨gb112, 3, none⟩ = some (.int .i64 a0_3) ∧ w'.cell? ⟨gb113, 0, none⟩ = some (.int .i64 a1_0) ∧ w'.cell? ⟨gb113, 1, none⟩ = some (.int .i64 a1_1) ∧ w'.cell? ⟨gb113, 2, none⟩ = some (.int .i64 a1_2) ∧ w'.cell? ⟨gb113, 3, none⟩ = some (.int .i64 a1_3)) (ds := []) #[false, false, false, false, false, false, false, false, false, false, false, false, false, false] (by kernel_rfl) rfl rfl ⟨(blk_cell BK112.out 0).trans rfl, (blk_cell BK112.out 1).trans rfl, (blk_cell BK112.out 2).trans rfl, (blk_cell BK112.out 3).trans rfl, (blk_cell BK113.out 0).trans rfl, (blk_cell BK113.out 1).trans rfl, (blk_cell BK113.out 2).trans rfl, (blk_cell BK113.out 3).trans rfl⟩ (fun hHeld => ?_); refine with_tabW frac_loose_times.tab2 frac_loose_times.bits2 (fun HT_ HW_ => ?_)
    generalize w41.drew = w42 at BK112 BK113 BK114 HB hHeld ⊢
    refine pure_ (i := 0) (N := some 25) (v := ?_) (a' := ?_) #[true, false, false, false, false, false, false, false, false, false, false, false, false, false] rfl rfl (any_of HT_.out (by kernel_rfl)) (fun _ _ _ h => h) (Or.inl ⟨by rfl, ?_⟩) ?_ ?_
    rotate_left
    ·intro w'
     go_simp
     with_reducible rfl
    rotate_left
    ·simp only [Act.put, List.setIfInBounds_toArray, List.set_cons_zero, List.set_cons_succ, i64_w, i32_w]
     rfl
    refine pure_ (i := 2) (N := some 27) (v := ?_) (a' := ?_) #[true, false, true, false, false, false, false, false, false, false, false, false, false, false] rfl rfl (any_of HT_.out (by kernel_rfl)) (fun _ _ _ h => h) (Or.inl ⟨by rfl, ?_⟩) ?_ ?_
    rotate_left
    ·intro w'
     go_simp
     with_reducible rfl
    rotate_left
    ·simp only [Act.put, List.setIfInBounds_toArray, List.set_cons_zero, List.set_cons_succ, i64_w, i32_w]
     rfl
    refine pure_ (i := 4) (N := some 29) (v := ?_) (a' := ?_) #[true, false, true, false, true, false, false, false, false, false, false, false, false, false] rfl rfl (any_of HT_.out (by kernel_rfl)) (fun _ _ _ h => h) (Or.inl ⟨by rfl, ?_⟩) ?_ ?_
    rotate_left
    ·intro w'
     go_simp
     with_reducible rfl
    rotate_left
    ·simp only [Act.put, List.setIfInBounds_toArray, List.set_cons_zero, List.set_cons_succ, i64_w, i32_w]
     rfl
    refine pure_ (i := 6) (N := some 31) (v := ?_) (a' := ?_) #[true, false, true, false, true, false, true, false, false, false, false, false, false, false] rfl rfl (any_of HT_.out (by kernel_rfl)) (fun _ _ _ h => h) (Or.inl ⟨by rfl, ?_⟩) ?_ ?_
    rotate_left
    ·intro w'
     go_simp
     with_reducible rfl
    rotate_left
    ·simp only [Act.put, List.setIfInBounds_toArray, List.set_cons_zero, List.set_cons_succ, i64_w, i32_w]
     rfl
    refine take_ (i := 1) (N := some 26) (v := ?_) (a' := ?_) #[true, true, true, false, true, false, true, false, false, false, false, false, false, false] rfl rfl (take_ofW HT_.out HW_.out (by kernel_rfl)) (fun _ _ _ h => h) (Or.inl ⟨by rfl, ?_⟩) hHeld ?_ ?_
    rotate_left
    ·rintro w' ⟨s0, s1, s2, s3, s4, s5, s6, s7⟩
     go_simp
     with_reducible rfl
    rotate_left
    ·simp only [Act.put, List.setIfInBounds_toArray, List.set_cons_zero, List.set_cons_succ, i64_w, i32_w]
     rfl
    refine pure_ (i := 3) (N := some 28) (v := ?_) (a' := ?_) #[true, true, true, true, true, false, true, false, false, false, false, false, false, false] rfl rfl (any_of HT_.out (by kernel_rfl)) (fun _ _ _ h => h) (Or.inl ⟨by rfl, ?_⟩) ?_ ?_
    rotate_left
    ·intro w'
     go_simp
     with_reducible rfl
    rotate_left
    ·simp only [Act.put, List.setIfInBounds_toArray, List.set_cons_zero, List.set_cons_succ, i64_w, i32_w]
     rfl
    refine take_ (i := 5) (N := some 30) (v := ?_) (a' := ?_) #[true, true, true, true, true, true, true, false, false, false, false, false, false, false] rfl rfl (take_ofW HT_.out HW_.out (by kernel_rfl)) (fun _ _ _ h => h) (Or.inl ⟨by rfl, ?_⟩) hHeld ?_ ?_
    rotate_left
    ·rintro w' ⟨s0, s1, s2, s3, s4, s5, s6, s7⟩
     go_simp
     with_reducible rfl
    rotate_left
    ·simp only [Act.put, List.setIfInBounds_toArray, List.set_cons_zero, List.set_cons_succ, i64_w, i32_w]
     rfl
    refine pure_ (i := 7) (N := some 32) (v := ?_) (a' := ?_) #[true, true, true, true, true, true, true, true, false, false, false, false, false, false] rfl rfl (any_of HT_.out (by kernel_rfl)) (fun _ _ _ h => h) (Or.inl ⟨by rfl, ?_⟩) ?_ ?_
    rotate_left
    ·intro w'
     go_simp
     with_reducible rfl
    rotate_left
    ·simp only [Act.put, List.setIfInBounds_toArray, List.set_cons_zero, List.set_cons_succ, i64_w, i32_w]
     rfl
    refine one_ (i := 8) (N := some 33) #[true, true, true, true, true, true, true, true, true, false, false, false, false, false] rfl rfl (one_of HT_.out (by kernel_rfl)) (by decide) (fun K hK => ?_)
    refine goes_ Tryd.func86 (by kernel_rfl) rfl #[.int .i64 (wrap64 (Int.tdiv a0_0 t115)), .int .i64 (wrap64 (Int.tdiv a1_0 t116))] (by rfl) rfl rfl (by (try simp only [List.map_toArray, List.map_cons, List.map_nil]); first | done | rfl | (simp only [List.length_drop, List.length_take]; rfl)) ?_
    with_reducible refine (whole_Mul.calls k (wrap64 (Int.tdiv a0_0 t115)) (wrap64 (Int.tdiv a1_0 t116)) t117 false _ A7.out).mono ?_
    rintro e w43 ⟨rfl, hb⟩
    refine ⟨_, rfl, ?_⟩
    replace BK112 := kb BK112 hb
    replace BK113 := kb BK113 hb
    replace BK114 := kb BK114 hb
    replace HB := sb HB hb
    (try clear hb)
    (try clear hb2)
    (try clear hk)
    (try clear hi)
    refine hK.out _ _ ⟨(blk_cell BK112.out 0).trans rfl, (blk_cell BK112.out 1).trans rfl, (blk_cell BK112.out 2).trans rfl, (blk_cell BK112.out 3).trans rfl, (blk_cell BK113.out 0).trans rfl, (blk_cell BK113.out 1).trans rfl, (blk_cell BK113.out 2).trans rfl, (blk_cell BK113.out 3).trans rfl⟩ (fun hHeld => ?_)
    clear hK K
    refine norm_ (a' := ?_) ?_ ?_
    rotate_left
    ·show Act.put _ (some 33) _ = _
     simp only [Act.put, List.setIfInBounds_toArray, List.set_cons_zero, List.set_cons_succ, i64_w, i32_w]
     rfl
    refine pure_ (i := 9) (N := some 24) (v := ?_) (a' := ?_) #[true, true, true, true, true, true, true, true, true, true, false, false, false, false] rfl rfl (any_of HT_.out (by kernel_rfl)) (fun _ _ _ h => h) (Or.inl ⟨by rfl, ?_⟩) ?_ ?_
    rotate_left
    ·intro w'
     go_simp
     with_reducible rfl
    rotate_left
    ·simp only [Act.put, List.setIfInBounds_toArray, List.set_cons_zero, List.set_cons_succ, i64_w, i32_w]
     rfl
    refine pure_ (i := 10) (N := some 34) (v := ?_) (a' := ?_) #[true, true, true, true, true, true, true, true, true, true, true, false, false, false] rfl rfl (any_of HT_.out (by kernel_rfl)) (fun _ _ _ h => h) (Or.inl ⟨by rfl, ?_⟩) ?_ ?_
    rotate_left
    ·intro w'
     go_simp
     with_reducible rfl
    rotate_left
    ·simp only [Act.put, List.setIfInBounds_toArray, List.set_cons_zero, List.set_cons_succ, i64_w, i32_w]
     rfl
    refine pure_ (i := 11) (N := some 35) (v := ?_) (a' := ?_) #[true, true, true, true, true, true, true, true, true, true, true, true, false, false] rfl rfl (any_of HT_.out (by kernel_rfl)) (fun _ _ _ h => h) (Or.inl ⟨by rfl, ?_⟩) ?_ ?_
    rotate_left
    ·intro w'
     go_simp
     with_reducible rfl
    rotate_left
    ·simp only [Act.put, List.setIfInBounds_toArray, List.set_cons_zero, List.set_cons_succ, i64_w, i32_w]
     rfl
    refine pure_ (i := 12) (N := some 8) (v := ?_) (a' := ?_) #[true, true, true, true, true, true, true, true, true, true, true, true, true, false] rfl rfl (any_of HT_.out (by kernel_rfl)) (fun _ _ _ h => h) (Or.inl ⟨by rfl, ?_⟩) ?_ ?_
    rotate_left
    ·intro w'
     go_simp
     with_reducible rfl
    rotate_left
    ·simp only [Act.put, List.setIfInBounds_toArray, List.set_cons_zero, List.set_cons_succ, i64_w, i32_w]
     rfl
    refine pure_ (i := 13) (N := some 9) (v := ?_) (a' := ?_) #[true, true, true, true, true, true, true, true, true, true, true, true, true, true] rfl rfl (any_of HT_.out (by kernel_rfl)) (fun _ _ _ h => h) (Or.inl ⟨by rfl, ?_⟩) ?_ ?_
    rotate_left
    ·intro w'
     go_simp
     with_reducible rfl
    rotate_left
    ·simp only [Act.put, List.setIfInBounds_toArray, List.set_cons_zero, List.set_cons_succ, i64_w, i32_w]
     rfl
    refine done_ (done_of HT_.out (by kernel_rfl)) ?_
    try go_wp2
    (try (rw [drewN_self w43]; generalize hq_ : World.drewN w43 _ = w43; replace BK112 := Aside0.mk (kq hq_ BK112.out); replace BK113 := Aside0.mk (kq hq_ BK113.out); replace BK114 := Aside0.mk (kq hq_ BK114.out); replace HB := Aside0.mk (bq hq_ HB.out); clear hq_))
    replace BK112 := Aside0.mk (blk_drew BK112.out)
    replace BK113 := Aside0.mk (blk_drew BK113.out)
    replace BK114 := Aside0.mk (blk_drew BK114.out)
    replace HB := Aside0.mk (below_drew1 HB.out)
    refine start_ (n := 14) (S := fun w' => w'.cell? ⟨gb112, 0, none⟩ = some (.int .i64 a0_0) ∧ w'.cell? ⟨gb112, 1, none⟩ = some (.int .i64 a0_1) ∧ w'.cell? ⟨gb112, 2, none⟩ = some (.int .i64 a0_2) ∧ w'.cell? ⟨gb112, 3, none⟩ = some (.int .i64 a0_3) ∧ w'.cell? ⟨gb113, 0, none⟩ = some (.int .i64 a1_0) ∧ w'.cell? ⟨gb113, 1, none⟩ = some (.int .i64 a1_1) ∧ w'.cell? ⟨gb113, 2, none⟩ = some (.int .i64 a1_2) ∧ w'.cell? ⟨gb113, 3, none⟩ = some (.int .i64 a1_3)) (ds := []) #[false, false, false, false, false, false, false, false, false, false, false, false, false, false] (by kernel_rfl) rfl rfl ⟨(blk_cell BK112.out 0).trans rfl, (blk_cell BK112.out 1).trans rfl, (blk_cell BK112.out 2).trans rfl, (blk_cell BK112.out 3).trans rfl, (blk_cell BK113.out 0).trans rfl, (blk_cell BK113.out 1).trans rfl, (blk_cell BK113.out 2).trans rfl, (blk_cell BK113.out 3).trans rfl⟩ (fun hHeld => ?_); refine with_tabW frac_loose_times.tab3 frac_loose_times.bits3 (fun HT_ HW_ => ?_)
    generalize w43.drew = w44 at BK112 BK113 BK114 HB hHeld ⊢
    refine pure_ (i := 0) (N := some 37) (v := ?_) (a' := ?_) #[true, false, false, false, false, false, false, false, false, false, false, false, false, false] rfl rfl (any_of HT_.out (by kernel_rfl)) (fun _ _ _ h => h) (Or.inl ⟨by rfl, ?_⟩) ?_ ?_
    rotate_left
    ·intro w'
     go_simp
     with_reducible rfl
    rotate_left
    ·simp only [Act.put, List.setIfInBounds_toArray, List.set_cons_zero, List.set_cons_succ, i64_w, i32_w]
     rfl
    refine pure_ (i := 2) (N := some 39) (v := ?_) (a' := ?_) #[true, false, true, false, false, false, false, false, false, false, false, false, false, false] rfl rfl (any_of HT_.out (by kernel_rfl)) (fun _ _ _ h => h) (Or.inl ⟨by rfl, ?_⟩) ?_ ?_
    rotate_left
    ·intro w'
     go_simp
     with_reducible rfl
    rotate_left
    ·simp only [Act.put, List.setIfInBounds_toArray, List.set_cons_zero, List.set_cons_succ, i64_w, i32_w]
     rfl
    refine pure_ (i := 4) (N := some 41) (v := ?_) (a' := ?_) #[true, false, true, false, true, false, false, false, false, false, false, false, false, false] rfl rfl (any_of HT_.out (by kernel_rfl)) (fun _ _ _ h => h) (Or.inl ⟨by rfl, ?_⟩) ?_ ?_
    rotate_left
    ·intro w'
     go_simp
     with_reducible rfl
    rotate_left
    ·simp only [Act.put, List.setIfInBounds_toArray, List.set_cons_zero, List.set_cons_succ, i64_w, i32_w]
     rfl
    refine pure_ (i := 6) (N := some 43) (v := ?_) (a' := ?_) #[true, false, true, false, true, false, true, false, false, false, false, false, false, false] rfl rfl (any_of HT_.out (by kernel_rfl)) (fun _ _ _ h => h) (Or.inl ⟨by rfl, ?_⟩) ?_ ?_
    rotate_left
    ·intro w'
     go_simp
     with_reducible rfl
    rotate_left
    ·simp only [Act.put, List.setIfInBounds_toArray, List.set_cons_zero, List.set_cons_succ, i64_w, i32_w]
     rfl
    refine take_ (i := 1) (N := some 38) (v := ?_) (a' := ?_) #[true, true, true, false, true, false, true, false, false, false, false, false, false, false] rfl rfl (take_ofW HT_.out HW_.out (by kernel_rfl)) (fun _ _ _ h => h) (Or.inl ⟨by rfl, ?_⟩) hHeld ?_ ?_
    rotate_left
    ·rintro w' ⟨s0, s1, s2, s3, s4, s5, s6, s7⟩
     go_simp
     with_reducible rfl
    rotate_left
    ·simp only [Act.put, List.setIfInBounds_toArray, List.set_cons_zero, List.set_cons_succ, i64_w, i32_w]
     rfl
    refine pure_ (i := 3) (N := some 40) (v := ?_) (a' := ?_) #[true, true, true, true, true, false, true, false, false, false, false, false, false, false] rfl rfl (any_of HT_.out (by kernel_rfl)) (fun _ _ _ h => h) (Or.inl ⟨by rfl, ?_⟩) ?_ ?_
    rotate_left
    ·intro w'
     go_simp
     with_reducible rfl
    rotate_left
    ·simp only [Act.put, List.setIfInBounds_toArray, List.set_cons_zero, List.set_cons_succ, i64_w, i32_w]
     rfl
    refine take_ (i := 5) (N := some 42) (v := ?_) (a' := ?_) #[true, true, true, true, true, true, true, false, false, false, false, false, false, false] rfl rfl (take_ofW HT_.out HW_.out (by kernel_rfl)) (fun _ _ _ h => h) (Or.inl ⟨by rfl, ?_⟩) hHeld ?_ ?_
    rotate_left
    ·rintro w' ⟨s0, s1, s2, s3, s4, s5, s6, s7⟩
     go_simp
     with_reducible rfl
    rotate_left
    ·simp only [Act.put, List.setIfInBounds_toArray, List.set_cons_zero, List.set_cons_succ, i64_w, i32_w]
     rfl
    refine pure_ (i := 7) (N := some 44) (v := ?_) (a' := ?_) #[true, true, true, true, true, true, true, true, false, false, false, false, false, false] rfl rfl (any_of HT_.out (by kernel_rfl)) (fun _ _ _ h => h) (Or.inl ⟨by rfl, ?_⟩) ?_ ?_
    rotate_left
    ·intro w'
     go_simp
     with_reducible rfl
    rotate_left
    ·simp only [Act.put, List.setIfInBounds_toArray, List.set_cons_zero, List.set_cons_succ, i64_w, i32_w]
     rfl
    refine one_ (i := 8) (N := some 45) #[true, true, true, true, true, true, true, true, true, false, false, false, false, false] rfl rfl (one_of HT_.out (by kernel_rfl)) (by decide) (fun K hK => ?_)
    refine goes_ Tryd.func86 (by kernel_rfl) rfl #[.int .i64 (wrap64 (Int.tdiv a0_1 t116)), .int .i64 (wrap64 (Int.tdiv a1_1 t115))] (by rfl) rfl rfl (by (try simp only [List.map_toArray, List.map_cons, List.map_nil]); first | done | rfl | (simp only [List.length_drop, List.length_take]; rfl)) ?_
    with_reducible refine (whole_Mul.calls k (wrap64 (Int.tdiv a0_1 t116)) (wrap64 (Int.tdiv a1_1 t115)) t119 t120 _ A8.out).mono ?_
    rintro e w45 ⟨rfl, hb⟩
    refine ⟨_, rfl, ?_⟩
    replace BK112 := kb BK112 hb
    replace BK113 := kb BK113 hb
    replace BK114 := kb BK114 hb
    replace HB := sb HB hb
    (try clear hb)
    (try clear hb2)
    (try clear hk)
    (try clear hi)
    refine hK.out _ _ ⟨(blk_cell BK112.out 0).trans rfl, (blk_cell BK112.out 1).trans rfl, (blk_cell BK112.out 2).trans rfl, (blk_cell BK112.out 3).trans rfl, (blk_cell BK113.out 0).trans rfl, (blk_cell BK113.out 1).trans rfl, (blk_cell BK113.out 2).trans rfl, (blk_cell BK113.out 3).trans rfl⟩ (fun hHeld => ?_)
    clear hK K
    refine norm_ (a' := ?_) ?_ ?_
    rotate_left
    ·show Act.put _ (some 45) _ = _
     simp only [Act.put, List.setIfInBounds_toArray, List.set_cons_zero, List.set_cons_succ, i64_w, i32_w]
     rfl
    refine pure_ (i := 9) (N := some 36) (v := ?_) (a' := ?_) #[true, true, true, true, true, true, true, true, true, true, false, false, false, false] rfl rfl (any_of HT_.out (by kernel_rfl)) (fun _ _ _ h => h) (Or.inl ⟨by rfl, ?_⟩) ?_ ?_
    rotate_left
    ·intro w'
     go_simp
     with_reducible rfl
    rotate_left
    ·simp only [Act.put, List.setIfInBounds_toArray, List.set_cons_zero, List.set_cons_succ, i64_w, i32_w]
     rfl
    refine pure_ (i := 10) (N := some 46) (v := ?_) (a' := ?_) #[true, true, true, true, true, true, true, true, true, true, true, false, false, false] rfl rfl (any_of HT_.out (by kernel_rfl)) (fun _ _ _ h => h) (Or.inl ⟨by rfl, ?_⟩) ?_ ?_
    rotate_left
    ·intro w'
     go_simp
     with_reducible rfl
    rotate_left
    ·simp only [Act.put, List.setIfInBounds_toArray, List.set_cons_zero, List.set_cons_succ, i64_w, i32_w]
     rfl
    refine pure_ (i := 11) (N := some 47) (v := ?_) (a' := ?_) #[true, true, true, true, true, true, true, true, true, true, true, true, false, false] rfl rfl (any_of HT_.out (by kernel_rfl)) (fun _ _ _ h => h) (Or.inl ⟨by rfl, ?_⟩) ?_ ?_
    rotate_left
    ·intro w'
     go_simp
     with_reducible rfl
    rotate_left
    ·simp only [Act.put, List.setIfInBounds_toArray, List.set_cons_zero, List.set_cons_succ, i64_w, i32_w]
     rfl
    refine pure_ (i := 12) (N := some 10) (v := ?_) (a' := ?_) #[true, true, true, true, true, true, true, true, true, true, true, true, true, false] rfl rfl (any_of HT_.out (by kernel_rfl)) (fun _ _ _ h => h) (Or.inl ⟨by rfl, ?_⟩) ?_ ?_
    rotate_left
    ·intro w'
     go_simp
     with_reducible rfl
    rotate_left
    ·simp only [Act.put, List.setIfInBounds_toArray, List.set_cons_zero, List.set_cons_succ, i64_w, i32_w]
     rfl
    refine pure_ (i := 13) (N := some 11) (v := ?_) (a' := ?_) #[true, true, true, true, true, true, true, true, true, true, true, true, true, true] rfl rfl (any_of HT_.out (by kernel_rfl)) (fun _ _ _ h => h) (Or.inl ⟨by rfl, ?_⟩) ?_ ?_
    rotate_left
    ·intro w'
     go_simp
     with_reducible rfl
    rotate_left
    ·simp only [Act.put, List.setIfInBounds_toArray, List.set_cons_zero, List.set_cons_succ, i64_w, i32_w]
     rfl
    refine done_ (done_of HT_.out (by kernel_rfl)) ?_
    try go_wp2_with (first | ((with_reducible refine gate_dst (N := 12) rfl ?_); refine box_event ?hg (N := 12) ?hd (cs := #[.int .i64 0, .int .i64 0, .int .i64 0, .int .i64 0]) (t := 100) ?hr ?_; (case hd => rfl); (case hg => rfl); (case hr => first | (go_simp; done) | (go_simp; rfl)); intro gb121 hg w46 hbox hb; have n0_ := kb BK112 hb; have n1_ := kb BK113 hb; have n2_ := kb BK114 hb; have n3_ := sb HB hb; have n4_ := Aside0.mk (hbox); have n5_ := Aside0.mk ((by rw [hg]; exact (below_size (bl HB.out)) : w.heap.size ≤ gb121)); have n6_ := Aside0.mk ((by rw [hg]; exact (below_size (bl HB.out)) : w.heap.size ≤ gb121)); have n7_ := Aside0.mk ((by rw [hg]; exact Nat.ne_of_lt (blk_lt (kp BK112.out)) : gb112 ≠ gb121)); have n8_ := Aside0.mk ((by rw [hg]; exact Nat.ne_of_gt (blk_lt (kp BK112.out)) : gb121 ≠ gb112)); have n9_ := Aside0.mk ((by rw [hg]; exact Nat.ne_of_lt (blk_lt (kp BK113.out)) : gb113 ≠ gb121)); have n10_ := Aside0.mk ((by rw [hg]; exact Nat.ne_of_gt (blk_lt (kp BK113.out)) : gb121 ≠ gb113)); have n11_ := Aside0.mk ((by rw [hg]; exact Nat.ne_of_lt (blk_lt (kp BK114.out)) : gb114 ≠ gb121)); have n12_ := Aside0.mk ((by rw [hg]; exact Nat.ne_of_gt (blk_lt (kp BK114.out)) : gb121 ≠ gb114)); clear BK112; clear BK113; clear BK114; clear HB; have BK112 := n0_; have BK113 := n1_; have BK114 := n2_; have HB := n3_; have BK121 := n4_; have GW121 := n5_; have GE121 := n6_; have NB112_121 := n7_; have NB121_112 := n8_; have NB113_121 := n9_; have NB121_113 := n10_; have NB114_121 := n11_; have NB121_114 := n12_; clear n0_ n1_ n2_ n3_ n4_ n5_ n6_ n7_ n8_ n9_ n10_ n11_ n12_; clear hb hbox hg; have hnb47 := NB121_112.out; have hnc47 := NB112_121.out; have hnb48 := NB121_113.out; have hnc48 := NB113_121.out; have hnb49 := NB121_114.out; have hnc49 := NB114_121.out; obtain ⟨hcz50_0, hcz50_1, hcz50_2, hcz50_3⟩ := hc4 BK121.out; obtain ⟨hfz50_0, hfz50_1, hfz50_2, hfz50_3⟩ := hf4 BK121.out))
    refine wp_loop_rounds 41 ?_
    rw [rounds_succ]
    try go_wp2
    have n0_ : Aside0 (((((w46.setCell ⟨gb121, 0, none⟩ (.int .i64 t117)).setCell ⟨gb121, 1, none⟩ (.int .i64 t119)).setCell ⟨gb121, 2, none⟩ (.int .i64 0)).setCell ⟨gb121, 3, none⟩ (.int .i64 0)).heap[gb112]? = some (.cells #[.int .i64 a0_0, .int .i64 a0_1, .int .i64 a0_2, .int .i64 a0_3] 100 (0, 0))) := ⟨kp BK112.out⟩
    have n1_ : Aside0 (((((w46.setCell ⟨gb121, 0, none⟩ (.int .i64 t117)).setCell ⟨gb121, 1, none⟩ (.int .i64 t119)).setCell ⟨gb121, 2, none⟩ (.int .i64 0)).setCell ⟨gb121, 3, none⟩ (.int .i64 0)).heap[gb113]? = some (.cells #[.int .i64 a1_0, .int .i64 a1_1, .int .i64 a1_2, .int .i64 a1_3] 100 (0, 0))) := ⟨kp BK113.out⟩
    have n2_ : Aside0 (((((w46.setCell ⟨gb121, 0, none⟩ (.int .i64 t117)).setCell ⟨gb121, 1, none⟩ (.int .i64 t119)).setCell ⟨gb121, 2, none⟩ (.int .i64 0)).setCell ⟨gb121, 3, none⟩ (.int .i64 0)).heap[gb114]? = some (.cells #[.int .i64 0, .int .i64 0, .int .i64 0, .int .i64 0] 100 (0, 0))) := ⟨kp BK114.out⟩
    have n3_ : Aside0 (((((w46.setCell ⟨gb121, 0, none⟩ (.int .i64 t117)).setCell ⟨gb121, 1, none⟩ (.int .i64 t119)).setCell ⟨gb121, 2, none⟩ (.int .i64 0)).setCell ⟨gb121, 3, none⟩ (.int .i64 0)).heap[gb121]? = some (.cells #[.int .i64 t117, .int .i64 t119, .int .i64 0, .int .i64 0] 100 (0, 0))) := ⟨kp (p4_3 (kp (p4_2 (kp (p4_1 (kp (p4_0 (kp BK121.out))))))))⟩
    have n4_ : Aside0 (Below w.heap.size w ((((w46.setCell ⟨gb121, 0, none⟩ (.int .i64 t117)).setCell ⟨gb121, 1, none⟩ (.int .i64 t119)).setCell ⟨gb121, 2, none⟩ (.int .i64 0)).setCell ⟨gb121, 3, none⟩ (.int .i64 0))) := ⟨bl HB.out⟩
    (try clear BK112)
    (try clear BK113)
    (try clear BK114)
    (try clear BK121)
    (try clear HB)
    generalize ((((w46.setCell ⟨gb121, 0, none⟩ (.int .i64 t117)).setCell ⟨gb121, 1, none⟩ (.int .i64 t119)).setCell ⟨gb121, 2, none⟩ (.int .i64 0)).setCell ⟨gb121, 3, none⟩ (.int .i64 0)) = w51 at n0_ n1_ n2_ n3_ n4_ ⊢
    have BK112 := n0_
    have BK113 := n1_
    have BK114 := n2_
    have BK121 := n3_
    have HB := n4_
    clear n0_ n1_ n2_ n3_ n4_
    (try (rw [drewN_self w51]; generalize hq_ : World.drewN w51 _ = w51; replace BK112 := Aside0.mk (kq hq_ BK112.out); replace BK113 := Aside0.mk (kq hq_ BK113.out); replace BK114 := Aside0.mk (kq hq_ BK114.out); replace BK121 := Aside0.mk (kq hq_ BK121.out); replace HB := Aside0.mk (bq hq_ HB.out); clear hq_))
    replace BK112 := Aside0.mk (blk_drew BK112.out)
    replace BK113 := Aside0.mk (blk_drew BK113.out)
    replace BK114 := Aside0.mk (blk_drew BK114.out)
    replace BK121 := Aside0.mk (blk_drew BK121.out)
    replace HB := Aside0.mk (below_drew1 HB.out)
    refine start_ (n := 13) (S := fun w' => w'.cell? ⟨gb112, 0, none⟩ = some (.int .i64 a0_0) ∧ w'.cell? ⟨gb112, 1, none⟩ = some (.int .i64 a0_1) ∧ w'.cell? ⟨gb112, 2, none⟩ = some (.int .i64 a0_2) ∧ w'.cell? ⟨gb112, 3, none⟩ = some (.int .i64 a0_3) ∧ w'.cell? ⟨gb113, 0, none⟩ = some (.int .i64 a1_0) ∧ w'.cell? ⟨gb113, 1, none⟩ = some (.int .i64 a1_1) ∧ w'.cell? ⟨gb113, 2, none⟩ = some (.int .i64 a1_2) ∧ w'.cell? ⟨gb113, 3, none⟩ = some (.int .i64 a1_3)) (ds := []) #[false, false, false, false, false, false, false, false, false, false, false, false, false] (by kernel_rfl) rfl rfl ⟨(blk_cell BK112.out 0).trans rfl, (blk_cell BK112.out 1).trans rfl, (blk_cell BK112.out 2).trans rfl, (blk_cell BK112.out 3).trans rfl, (blk_cell BK113.out 0).trans rfl, (blk_cell BK113.out 1).trans rfl, (blk_cell BK113.out 2).trans rfl, (blk_cell BK113.out 3).trans rfl⟩ (fun hHeld => ?_); refine with_tabW frac_loose_times.tab8 frac_loose_times.bits8 (fun HT_ HW_ => ?_)
    generalize w51.drew = w52 at BK112 BK113 BK114 BK121 HB hHeld ⊢
    refine pure_ (i := 0) (N := some 54) (v := ?_) (a' := ?_) #[true, false, false, false, false, false, false, false, false, false, false, false, false] rfl rfl (any_of HT_.out (by kernel_rfl)) (fun _ _ _ h => h) (Or.inl ⟨by rfl, ?_⟩) ?_ ?_
    rotate_left
    ·intro w'
     go_simp
     with_reducible rfl
    rotate_left
    ·simp only [Act.put, List.setIfInBounds_toArray, List.set_cons_zero, List.set_cons_succ, i64_w, i32_w]
     rfl
    refine pure_ (i := 1) (N := some 55) (v := ?_) (a' := ?_) #[true, true, false, false, false, false, false, false, false, false, false, false, false] rfl rfl (any_of HT_.out (by kernel_rfl)) (fun _ _ _ h => h) (Or.inl ⟨by rfl, ?_⟩) ?_ ?_
    rotate_left
    ·intro w'
     go_simp
     with_reducible rfl
    rotate_left
    ·simp only [Act.put, List.setIfInBounds_toArray, List.set_cons_zero, List.set_cons_succ, i64_w, i32_w]
     rfl
    refine pure_ (i := 2) (N := some 56) (v := ?_) (a' := ?_) #[true, true, true, false, false, false, false, false, false, false, false, false, false] rfl rfl (any_of HT_.out (by kernel_rfl)) (fun _ _ _ h => h) (Or.inl ⟨by rfl, ?_⟩) ?_ ?_
    rotate_left
    ·intro w'
     go_simp
     with_reducible rfl
    rotate_left
    ·simp only [Act.put, List.setIfInBounds_toArray, List.set_cons_zero, List.set_cons_succ, i64_w, i32_w]
     rfl
    refine pure_ (i := 3) (N := some 57) (v := ?_) (a' := ?_) #[true, true, true, true, false, false, false, false, false, false, false, false, false] rfl rfl (any_of HT_.out (by kernel_rfl)) (fun _ _ _ h => h) (Or.inl ⟨by rfl, ?_⟩) ?_ ?_
    rotate_left
    ·intro w'
     go_simp
     with_reducible rfl
    rotate_left
    ·simp only [Act.put, List.setIfInBounds_toArray, List.set_cons_zero, List.set_cons_succ, i64_w, i32_w]
     rfl
    refine pure_ (i := 5) (N := some 59) (v := ?_) (a' := ?_) #[true, true, true, true, false, true, false, false, false, false, false, false, false] rfl rfl (any_of HT_.out (by kernel_rfl)) (fun _ _ _ h => h) (Or.inl ⟨by rfl, ?_⟩) ?_ ?_
    rotate_left
    ·intro w'
     go_simp
     with_reducible rfl
    rotate_left
    ·simp only [Act.put, List.setIfInBounds_toArray, List.set_cons_zero, List.set_cons_succ, i64_w, i32_w]
     rfl
    refine pure_ (i := 6) (N := some 60) (v := ?_) (a' := ?_) #[true, true, true, true, false, true, true, false, false, false, false, false, false] rfl rfl (any_of HT_.out (by kernel_rfl)) (fun _ _ _ h => h) (Or.inl ⟨by rfl, ?_⟩) ?_ ?_
    rotate_left
    ·intro w'
     go_simp
     with_reducible rfl
    rotate_left
    ·simp only [Act.put, List.setIfInBounds_toArray, List.set_cons_zero, List.set_cons_succ, i64_w, i32_w]
     rfl
    refine pure_ (i := 7) (N := some 61) (v := ?_) (a' := ?_) #[true, true, true, true, false, true, true, true, false, false, false, false, false] rfl rfl (any_of HT_.out (by kernel_rfl)) (fun _ _ _ h => h) (Or.inl ⟨by rfl, ?_⟩) ?_ ?_
    rotate_left
    ·intro w'
     go_simp
     with_reducible rfl
    rotate_left
    ·simp only [Act.put, List.setIfInBounds_toArray, List.set_cons_zero, List.set_cons_succ, i64_w, i32_w]
     rfl
    refine pure_ (i := 10) (N := some 64) (v := ?_) (a' := ?_) #[true, true, true, true, false, true, true, true, false, false, true, false, false] rfl rfl (any_of HT_.out (by kernel_rfl)) (fun _ _ _ h => h) (Or.inl ⟨by rfl, ?_⟩) ?_ ?_
    rotate_left
    ·intro w'
     go_simp
     with_reducible rfl
    rotate_left
    ·simp only [Act.put, List.setIfInBounds_toArray, List.set_cons_zero, List.set_cons_succ, i64_w, i32_w]
     rfl
    refine take_ (i := 4) (N := some 58) (v := ?_) (a' := ?_) #[true, true, true, true, true, true, true, true, false, false, true, false, false] rfl rfl (take_ofW HT_.out HW_.out (by kernel_rfl)) (fun _ _ _ h => h) (Or.inl ⟨by rfl, ?_⟩) hHeld ?_ ?_
    rotate_left
    ·rintro w' ⟨s0, s1, s2, s3, s4, s5, s6, s7⟩
     go_simp
     with_reducible rfl
    rotate_left
    ·simp only [Act.put, List.setIfInBounds_toArray, List.set_cons_zero, List.set_cons_succ, i64_w, i32_w]
     rfl
    refine take_ (i := 8) (N := some 62) (v := ?_) (a' := ?_) #[true, true, true, true, true, true, true, true, true, false, true, false, false] rfl rfl (take_ofW HT_.out HW_.out (by kernel_rfl)) (fun _ _ _ h => h) (Or.inl ⟨by rfl, ?_⟩) hHeld ?_ ?_
    rotate_left
    ·rintro w' ⟨s0, s1, s2, s3, s4, s5, s6, s7⟩
     go_simp
     with_reducible rfl
    rotate_left
    ·simp only [Act.put, List.setIfInBounds_toArray, List.set_cons_zero, List.set_cons_succ, i64_w, i32_w]
     rfl
    refine pure_ (i := 9) (N := some 63) (v := ?_) (a' := ?_) #[true, true, true, true, true, true, true, true, true, true, true, false, false] rfl rfl (any_of HT_.out (by kernel_rfl)) (fun _ _ _ h => h) (Or.inl ⟨by rfl, ?_⟩) ?_ ?_
    rotate_left
    ·intro w'
     go_simp
     with_reducible rfl
    rotate_left
    ·simp only [Act.put, List.setIfInBounds_toArray, List.set_cons_zero, List.set_cons_succ, i64_w, i32_w]
     rfl
    refine pure_ (i := 11) (N := some 65) (v := ?_) (a' := ?_) #[true, true, true, true, true, true, true, true, true, true, true, true, false] rfl rfl (any_of HT_.out (by kernel_rfl)) (fun _ _ _ h => h) (Or.inl ⟨by rfl, ?_⟩) ?_ ?_
    rotate_left
    ·intro w'
     go_simp
     with_reducible rfl
    rotate_left
    ·simp only [Act.put, List.setIfInBounds_toArray, List.set_cons_zero, List.set_cons_succ, i64_w, i32_w]
     rfl
    refine one_ (i := 12) (N := none) #[true, true, true, true, true, true, true, true, true, true, true, true, true] rfl rfl (one_of HT_.out (by kernel_rfl)) (by decide) (fun K hK => ?_)
    have hs53 : w52.cell? ⟨gb121, 2, none⟩ = some (.int .i64 0) := (blk_cell BK121.out 2).trans rfl
    have hfs53 := blk_frozen BK121.out 2
    have hns53_0 := NB112_121.out
    have hns53_1 := NB113_121.out
    have hns53_2 := NB114_121.out
    have hms53_0 := NB121_112.out
    have hms53_1 := NB121_113.out
    have hms53_2 := NB121_114.out
    refine skip_ (w1 := ?_) (by rfl) rfl ?_ ?_
    rotate_left
    ·go_simp
     rfl
    refine hK.out _ _ ⟨((cell_far (p := ⟨gb121, _, none⟩) NB112_121.out _).trans (hHeld.1)), ((cell_far (p := ⟨gb121, _, none⟩) NB112_121.out _).trans (hHeld.2.1)), ((cell_far (p := ⟨gb121, _, none⟩) NB112_121.out _).trans (hHeld.2.2.1)), ((cell_far (p := ⟨gb121, _, none⟩) NB112_121.out _).trans (hHeld.2.2.2.1)), ((cell_far (p := ⟨gb121, _, none⟩) NB113_121.out _).trans (hHeld.2.2.2.2.1)), ((cell_far (p := ⟨gb121, _, none⟩) NB113_121.out _).trans (hHeld.2.2.2.2.2.1)), ((cell_far (p := ⟨gb121, _, none⟩) NB113_121.out _).trans (hHeld.2.2.2.2.2.2.1)), ((cell_far (p := ⟨gb121, _, none⟩) NB113_121.out _).trans (hHeld.2.2.2.2.2.2.2))⟩ (fun hHeld => ?_)
    clear hK K
    refine done_ (done_of HT_.out (by kernel_rfl)) ?_
    try go_wp2
    rw [rounds_succ]
    have n0_ : Aside0 ((w52.setCell ⟨gb121, 2, none⟩ (.int .i64 (wrap64 (a0_2 + a1_2)))).heap[gb112]? = some (.cells #[.int .i64 a0_0, .int .i64 a0_1, .int .i64 a0_2, .int .i64 a0_3] 100 (0, 0))) := ⟨kp BK112.out⟩
    have n1_ : Aside0 ((w52.setCell ⟨gb121, 2, none⟩ (.int .i64 (wrap64 (a0_2 + a1_2)))).heap[gb113]? = some (.cells #[.int .i64 a1_0, .int .i64 a1_1, .int .i64 a1_2, .int .i64 a1_3] 100 (0, 0))) := ⟨kp BK113.out⟩
    have n2_ : Aside0 ((w52.setCell ⟨gb121, 2, none⟩ (.int .i64 (wrap64 (a0_2 + a1_2)))).heap[gb114]? = some (.cells #[.int .i64 0, .int .i64 0, .int .i64 0, .int .i64 0] 100 (0, 0))) := ⟨kp BK114.out⟩
    have n3_ : Aside0 ((w52.setCell ⟨gb121, 2, none⟩ (.int .i64 (wrap64 (a0_2 + a1_2)))).heap[gb121]? = some (.cells #[.int .i64 t117, .int .i64 t119, .int .i64 (wrap64 (a0_2 + a1_2)), .int .i64 0] 100 (0, 0))) := ⟨kp (p4_2 (kp BK121.out))⟩
    have n4_ : Aside0 (Below w.heap.size w (w52.setCell ⟨gb121, 2, none⟩ (.int .i64 (wrap64 (a0_2 + a1_2))))) := ⟨bl HB.out⟩
    (try clear BK112)
    (try clear BK113)
    (try clear BK114)
    (try clear BK121)
    (try clear HB)
    generalize (w52.setCell ⟨gb121, 2, none⟩ (.int .i64 (wrap64 (a0_2 + a1_2)))) = w54 at n0_ n1_ n2_ n3_ n4_ ⊢
    have BK112 := n0_
    have BK113 := n1_
    have BK114 := n2_
    have BK121 := n3_
    have HB := n4_
    clear n0_ n1_ n2_ n3_ n4_
    (try (rw [drewN_self w54]; generalize hq_ : World.drewN w54 _ = w54; replace BK112 := Aside0.mk (kq hq_ BK112.out); replace BK113 := Aside0.mk (kq hq_ BK113.out); replace BK114 := Aside0.mk (kq hq_ BK114.out); replace BK121 := Aside0.mk (kq hq_ BK121.out); replace HB := Aside0.mk (bq hq_ HB.out); clear hq_))
    try go_wp2
    (try (rw [drewN_self w54]; generalize hq_ : World.drewN w54 _ = w54; replace BK112 := Aside0.mk (kq hq_ BK112.out); replace BK113 := Aside0.mk (kq hq_ BK113.out); replace BK114 := Aside0.mk (kq hq_ BK114.out); replace BK121 := Aside0.mk (kq hq_ BK121.out); replace HB := Aside0.mk (bq hq_ HB.out); clear hq_))
    replace BK112 := Aside0.mk (blk_drew BK112.out)
    replace BK113 := Aside0.mk (blk_drew BK113.out)
    replace BK114 := Aside0.mk (blk_drew BK114.out)
    replace BK121 := Aside0.mk (blk_drew BK121.out)
    replace HB := Aside0.mk (below_drew1 HB.out)
    refine start_ (n := 13) (S := fun w' => w'.cell? ⟨gb112, 0, none⟩ = some (.int .i64 a0_0) ∧ w'.cell? ⟨gb112, 1, none⟩ = some (.int .i64 a0_1) ∧ w'.cell? ⟨gb112, 2, none⟩ = some (.int .i64 a0_2) ∧ w'.cell? ⟨gb112, 3, none⟩ = some (.int .i64 a0_3) ∧ w'.cell? ⟨gb113, 0, none⟩ = some (.int .i64 a1_0) ∧ w'.cell? ⟨gb113, 1, none⟩ = some (.int .i64 a1_1) ∧ w'.cell? ⟨gb113, 2, none⟩ = some (.int .i64 a1_2) ∧ w'.cell? ⟨gb113, 3, none⟩ = some (.int .i64 a1_3)) (ds := []) #[false, false, false, false, false, false, false, false, false, false, false, false, false] (by kernel_rfl) rfl rfl ⟨(blk_cell BK112.out 0).trans rfl, (blk_cell BK112.out 1).trans rfl, (blk_cell BK112.out 2).trans rfl, (blk_cell BK112.out 3).trans rfl, (blk_cell BK113.out 0).trans rfl, (blk_cell BK113.out 1).trans rfl, (blk_cell BK113.out 2).trans rfl, (blk_cell BK113.out 3).trans rfl⟩ (fun hHeld => ?_); refine with_tabW frac_loose_times.tab8 frac_loose_times.bits8 (fun HT_ HW_ => ?_)
    generalize w54.drew = w55 at BK112 BK113 BK114 BK121 HB hHeld ⊢
    refine pure_ (i := 0) (N := some 54) (v := ?_) (a' := ?_) #[true, false, false, false, false, false, false, false, false, false, false, false, false] rfl rfl (any_of HT_.out (by kernel_rfl)) (fun _ _ _ h => h) (Or.inl ⟨by rfl, ?_⟩) ?_ ?_
    rotate_left
    ·intro w'
     go_simp
     with_reducible rfl
    rotate_left
    ·simp only [Act.put, List.setIfInBounds_toArray, List.set_cons_zero, List.set_cons_succ, i64_w, i32_w]
     rfl
    refine pure_ (i := 1) (N := some 55) (v := ?_) (a' := ?_) #[true, true, false, false, false, false, false, false, false, false, false, false, false] rfl rfl (any_of HT_.out (by kernel_rfl)) (fun _ _ _ h => h) (Or.inl ⟨by rfl, ?_⟩) ?_ ?_
    rotate_left
    ·intro w'
     go_simp
     with_reducible rfl
    rotate_left
    ·simp only [Act.put, List.setIfInBounds_toArray, List.set_cons_zero, List.set_cons_succ, i64_w, i32_w]
     rfl
    refine pure_ (i := 2) (N := some 56) (v := ?_) (a' := ?_) #[true, true, true, false, false, false, false, false, false, false, false, false, false] rfl rfl (any_of HT_.out (by kernel_rfl)) (fun _ _ _ h => h) (Or.inl ⟨by rfl, ?_⟩) ?_ ?_
    rotate_left
    ·intro w'
     go_simp
     with_reducible rfl
    rotate_left
    ·simp only [Act.put, List.setIfInBounds_toArray, List.set_cons_zero, List.set_cons_succ, i64_w, i32_w]
     rfl
    refine pure_ (i := 3) (N := some 57) (v := ?_) (a' := ?_) #[true, true, true, true, false, false, false, false, false, false, false, false, false] rfl rfl (any_of HT_.out (by kernel_rfl)) (fun _ _ _ h => h) (Or.inl ⟨by rfl, ?_⟩) ?_ ?_
    rotate_left
    ·intro w'
     go_simp
     with_reducible rfl
    rotate_left
    ·simp only [Act.put, List.setIfInBounds_toArray, List.set_cons_zero, List.set_cons_succ, i64_w, i32_w]
     rfl
    refine pure_ (i := 5) (N := some 59) (v := ?_) (a' := ?_) #[true, true, true, true, false, true, false, false, false, false, false, false, false] rfl rfl (any_of HT_.out (by kernel_rfl)) (fun _ _ _ h => h) (Or.inl ⟨by rfl, ?_⟩) ?_ ?_
    rotate_left
    ·intro w'
     go_simp
     with_reducible rfl
    rotate_left
    ·simp only [Act.put, List.setIfInBounds_toArray, List.set_cons_zero, List.set_cons_succ, i64_w, i32_w]
     rfl
    refine pure_ (i := 6) (N := some 60) (v := ?_) (a' := ?_) #[true, true, true, true, false, true, true, false, false, false, false, false, false] rfl rfl (any_of HT_.out (by kernel_rfl)) (fun _ _ _ h => h) (Or.inl ⟨by rfl, ?_⟩) ?_ ?_
    rotate_left
    ·intro w'
     go_simp
     with_reducible rfl
    rotate_left
    ·simp only [Act.put, List.setIfInBounds_toArray, List.set_cons_zero, List.set_cons_succ, i64_w, i32_w]
     rfl
    refine pure_ (i := 7) (N := some 61) (v := ?_) (a' := ?_) #[true, true, true, true, false, true, true, true, false, false, false, false, false] rfl rfl (any_of HT_.out (by kernel_rfl)) (fun _ _ _ h => h) (Or.inl ⟨by rfl, ?_⟩) ?_ ?_
    rotate_left
    ·intro w'
     go_simp
     with_reducible rfl
    rotate_left
    ·simp only [Act.put, List.setIfInBounds_toArray, List.set_cons_zero, List.set_cons_succ, i64_w, i32_w]
     rfl
    refine pure_ (i := 10) (N := some 64) (v := ?_) (a' := ?_) #[true, true, true, true, false, true, true, true, false, false, true, false, false] rfl rfl (any_of HT_.out (by kernel_rfl)) (fun _ _ _ h => h) (Or.inl ⟨by rfl, ?_⟩) ?_ ?_
    rotate_left
    ·intro w'
     go_simp
     with_reducible rfl
    rotate_left
    ·simp only [Act.put, List.setIfInBounds_toArray, List.set_cons_zero, List.set_cons_succ, i64_w, i32_w]
     rfl
    refine take_ (i := 4) (N := some 58) (v := ?_) (a' := ?_) #[true, true, true, true, true, true, true, true, false, false, true, false, false] rfl rfl (take_ofW HT_.out HW_.out (by kernel_rfl)) (fun _ _ _ h => h) (Or.inl ⟨by rfl, ?_⟩) hHeld ?_ ?_
    rotate_left
    ·rintro w' ⟨s0, s1, s2, s3, s4, s5, s6, s7⟩
     go_simp
     with_reducible rfl
    rotate_left
    ·simp only [Act.put, List.setIfInBounds_toArray, List.set_cons_zero, List.set_cons_succ, i64_w, i32_w]
     rfl
    refine take_ (i := 8) (N := some 62) (v := ?_) (a' := ?_) #[true, true, true, true, true, true, true, true, true, false, true, false, false] rfl rfl (take_ofW HT_.out HW_.out (by kernel_rfl)) (fun _ _ _ h => h) (Or.inl ⟨by rfl, ?_⟩) hHeld ?_ ?_
    rotate_left
    ·rintro w' ⟨s0, s1, s2, s3, s4, s5, s6, s7⟩
     go_simp
     with_reducible rfl
    rotate_left
    ·simp only [Act.put, List.setIfInBounds_toArray, List.set_cons_zero, List.set_cons_succ, i64_w, i32_w]
     rfl
    refine pure_ (i := 9) (N := some 63) (v := ?_) (a' := ?_) #[true, true, true, true, true, true, true, true, true, true, true, false, false] rfl rfl (any_of HT_.out (by kernel_rfl)) (fun _ _ _ h => h) (Or.inl ⟨by rfl, ?_⟩) ?_ ?_
    rotate_left
    ·intro w'
     go_simp
     with_reducible rfl
    rotate_left
    ·simp only [Act.put, List.setIfInBounds_toArray, List.set_cons_zero, List.set_cons_succ, i64_w, i32_w]
     rfl
    refine pure_ (i := 11) (N := some 65) (v := ?_) (a' := ?_) #[true, true, true, true, true, true, true, true, true, true, true, true, false] rfl rfl (any_of HT_.out (by kernel_rfl)) (fun _ _ _ h => h) (Or.inl ⟨by rfl, ?_⟩) ?_ ?_
    rotate_left
    ·intro w'
     go_simp
     with_reducible rfl
    rotate_left
    ·simp only [Act.put, List.setIfInBounds_toArray, List.set_cons_zero, List.set_cons_succ, i64_w, i32_w]
     rfl
    refine one_ (i := 12) (N := none) #[true, true, true, true, true, true, true, true, true, true, true, true, true] rfl rfl (one_of HT_.out (by kernel_rfl)) (by decide) (fun K hK => ?_)
    have hs56 : w55.cell? ⟨gb121, 3, none⟩ = some (.int .i64 0) := (blk_cell BK121.out 3).trans rfl
    have hfs56 := blk_frozen BK121.out 3
    have hns56_0 := NB112_121.out
    have hns56_1 := NB113_121.out
    have hns56_2 := NB114_121.out
    have hms56_0 := NB121_112.out
    have hms56_1 := NB121_113.out
    have hms56_2 := NB121_114.out
    refine skip_ (w1 := ?_) (by rfl) rfl ?_ ?_
    rotate_left
    ·go_simp
     rfl
    refine hK.out _ _ ⟨((cell_far (p := ⟨gb121, _, none⟩) NB112_121.out _).trans (hHeld.1)), ((cell_far (p := ⟨gb121, _, none⟩) NB112_121.out _).trans (hHeld.2.1)), ((cell_far (p := ⟨gb121, _, none⟩) NB112_121.out _).trans (hHeld.2.2.1)), ((cell_far (p := ⟨gb121, _, none⟩) NB112_121.out _).trans (hHeld.2.2.2.1)), ((cell_far (p := ⟨gb121, _, none⟩) NB113_121.out _).trans (hHeld.2.2.2.2.1)), ((cell_far (p := ⟨gb121, _, none⟩) NB113_121.out _).trans (hHeld.2.2.2.2.2.1)), ((cell_far (p := ⟨gb121, _, none⟩) NB113_121.out _).trans (hHeld.2.2.2.2.2.2.1)), ((cell_far (p := ⟨gb121, _, none⟩) NB113_121.out _).trans (hHeld.2.2.2.2.2.2.2))⟩ (fun hHeld => ?_)
    clear hK K
    refine done_ (done_of HT_.out (by kernel_rfl)) ?_
    try go_wp2
    rw [rounds_succ]
    have n0_ : Aside0 ((w55.setCell ⟨gb121, 3, none⟩ (.int .i64 (wrap64 (a0_3 + a1_3)))).heap[gb112]? = some (.cells #[.int .i64 a0_0, .int .i64 a0_1, .int .i64 a0_2, .int .i64 a0_3] 100 (0, 0))) := ⟨kp BK112.out⟩
    have n1_ : Aside0 ((w55.setCell ⟨gb121, 3, none⟩ (.int .i64 (wrap64 (a0_3 + a1_3)))).heap[gb113]? = some (.cells #[.int .i64 a1_0, .int .i64 a1_1, .int .i64 a1_2, .int .i64 a1_3] 100 (0, 0))) := ⟨kp BK113.out⟩
    have n2_ : Aside0 ((w55.setCell ⟨gb121, 3, none⟩ (.int .i64 (wrap64 (a0_3 + a1_3)))).heap[gb114]? = some (.cells #[.int .i64 0, .int .i64 0, .int .i64 0, .int .i64 0] 100 (0, 0))) := ⟨kp BK114.out⟩
    have n3_ : Aside0 ((w55.setCell ⟨gb121, 3, none⟩ (.int .i64 (wrap64 (a0_3 + a1_3)))).heap[gb121]? = some (.cells #[.int .i64 t117, .int .i64 t119, .int .i64 (wrap64 (a0_2 + a1_2)), .int .i64 (wrap64 (a0_3 + a1_3))] 100 (0, 0))) := ⟨kp (p4_3 (kp BK121.out))⟩
    have n4_ : Aside0 (Below w.heap.size w (w55.setCell ⟨gb121, 3, none⟩ (.int .i64 (wrap64 (a0_3 + a1_3))))) := ⟨bl HB.out⟩
    (try clear BK112)
    (try clear BK113)
    (try clear BK114)
    (try clear BK121)
    (try clear HB)
    generalize (w55.setCell ⟨gb121, 3, none⟩ (.int .i64 (wrap64 (a0_3 + a1_3)))) = w57 at n0_ n1_ n2_ n3_ n4_ ⊢
    have BK112 := n0_
    have BK113 := n1_
    have BK114 := n2_
    have BK121 := n3_
    have HB := n4_
    clear n0_ n1_ n2_ n3_ n4_
    (try (rw [drewN_self w57]; generalize hq_ : World.drewN w57 _ = w57; replace BK112 := Aside0.mk (kq hq_ BK112.out); replace BK113 := Aside0.mk (kq hq_ BK113.out); replace BK114 := Aside0.mk (kq hq_ BK114.out); replace BK121 := Aside0.mk (kq hq_ BK121.out); replace HB := Aside0.mk (bq hq_ HB.out); clear hq_))
    obtain ⟨hcz58_0, hcz58_1, hcz58_2, hcz58_3⟩ := hc4 BK121.out
    obtain ⟨hfz58_0, hfz58_1, hfz58_2, hfz58_3⟩ := hf4 BK121.out
    have hnb59 := NB114_112.out
    have hnc59 := NB112_114.out
    have hnb60 := NB114_113.out
    have hnc60 := NB113_114.out
    obtain ⟨hcz61_0, hcz61_1, hcz61_2, hcz61_3⟩ := hc4 BK114.out
    obtain ⟨hfz61_0, hfz61_1, hfz61_2, hfz61_3⟩ := hf4 BK114.out
    try go_wp2
    refine bodyPost_ret (results_ct rfl _ _ gb114 100 #[.int .i64 t117, .int .i64 t119, .int .i64 (wrap64 (a0_2 + a1_2)), .int .i64 (wrap64 (a0_3 + a1_3))] (0, 0) _ rfl (kp (p4_3 (kp (p4_2 (kp (p4_1 (kp (p4_0 (kp BK114.out))))))))) Tryd.underlying100 rfl (by kernel_rfl)) rfl ?_
    exact ⟨by first | rfl | (simp [errW_none, errW_some] <;> rfl) | (simp [*, errW_none, errW_some] <;> rfl), bl HB.out⟩

/-! ### frac_loose_turned: function 63 -/
def frac_loose_turned.j0 : Nat → Int → Int → Int → Int → Int → Int → Int → Int → Option (Int × Int × Int × Int)
 | 0, _, _, _, _, _, _, _, _ => none
 | k + 1, x123000, x123001, x123002, x123003, x125000, x125001, x125002, x125003 => some (x125000, x125001, wrap64 (-x123002), wrap64 (-x123003))
def frac_loose_turned.f (k : Nat) (a0_0 : Int) (a0_1 : Int) (a0_2 : Int) (a0_3 : Int) : Option (Int × Int × Int × Int) := if a0_0 < 0 then (frac_loose_turned.j0 k a0_0 a0_1 a0_2 a0_3 (wrap64 (-a0_1)) (wrap64 (-a0_0)) 0 0) else (frac_loose_turned.j0 k a0_0 a0_1 a0_2 a0_3 a0_1 a0_0 0 0)
theorem frac_loose_turned.mono_l : ∀ k, (∀ y0 y1 y2 y3 y4 y5 y6 y7, LeO (frac_loose_turned.j0 k y0 y1 y2 y3 y4 y5 y6 y7) (frac_loose_turned.j0 (k + 1) y0 y1 y2 y3 y4 y5 y6 y7))
 | 0 => fun _ _ _ _ _ _ _ _ r h => by simp [frac_loose_turned.j0] at h
 | k + 1 => by
  have ih0 := frac_loose_turned.mono_l k
  ·intro y0 y1 y2 y3 y4 y5 y6 y7
   unfold frac_loose_turned.j0
   repeat' first
   | (with_reducible exact ih0 _ _ _ _ _ _ _ _)
   | (with_reducible exact LeO.refl _)
   | (with_reducible exact LeO.none _)
   | (with_reducible refine LeO.ite ?_ ?_)
   | (with_reducible refine LeO.bind ?_ (fun _ => ?_))
   | exact ih0 _ _ _ _ _ _ _ _
   | exact LeO.none _
   | refine LeO.ite ?_ ?_
   | refine LeO.bind ?_ (fun _ => ?_)
theorem frac_loose_turned.mono : ∀ a0 a1 a2 a3 k, LeO (frac_loose_turned.f k a0 a1 a2 a3) (frac_loose_turned.f (k + 1) a0 a1 a2 a3) := by
 intro a0 a1 a2 a3 k
 have ih0 := frac_loose_turned.mono_l k
 unfold frac_loose_turned.f
 repeat' first
   | (with_reducible exact ih0 _ _ _ _ _ _ _ _)
   | (with_reducible exact LeO.refl _)
   | (with_reducible exact LeO.none _)
   | (with_reducible refine LeO.ite ?_ ?_)
   | (with_reducible refine LeO.bind ?_ (fun _ => ?_))
   | exact ih0 _ _ _ _ _ _ _ _
   | exact LeO.none _
   | refine LeO.ite ?_ ?_
   | refine LeO.bind ?_ (fun _ => ?_)
set_option maxHeartbeats 8000000 in
set_option maxRecDepth 100000 in
theorem frac_loose_turned.calls (k : Nat) (a0_0 : Int) (a0_1 : Int) (a0_2 : Int) (a0_3 : Int) (r1 : Int) (r2 : Int) (r3 : Int) (r4 : Int) (w : World) (h : frac_loose_turned.f k a0_0 a0_1 a0_2 a0_3 = some (r1, r2, r3, r4)) :
  Calls Tryd.prog 63 #[.agg #[.int .i64 a0_0, .int .i64 a0_1, .int .i64 a0_2, .int .i64 a0_3]] w fun e w' => e = .returned (.agg #[.int .i64 r1, .int .i64 r2, .int .i64 r3, .int .i64 r4]) ∧ Below w.heap.size w w' := by
 have hu100 := Tryd.underlying100
 have hu98 := Tryd.underlying98
 have hsd : ∀ (W : World) (n_ : Nat) (a_ : Addr) (v_ : Value), (W.drewN n_).setCell a_ v_ = (W.setCell a_ v_).drewN n_ := fun _ _ _ _ => rfl
 have hix98_0 : ∀ (y0_ y1_ : Value) (W : World), (Instr.index 98 (.agg #[y0_, y1_]) (.int .i64 0)).run Tryd.prog W = .ok (y0_) W := by intro y0_ y1_ W; first | kernel_rfl | rfl
 have hix98_1 : ∀ (y0_ y1_ : Value) (W : World), (Instr.index 98 (.agg #[y0_, y1_]) (.int .i64 1)).run Tryd.prog W = .ok (y1_) W := by intro y0_ y1_ W; first | kernel_rfl | rfl
 have HB := Aside0.mk (Below.refl w.heap.size w)
 have H : (if a0_0 < 0 then (frac_loose_turned.j0 k a0_0 a0_1 a0_2 a0_3 (wrap64 (-a0_1)) (wrap64 (-a0_0)) 0 0) else (frac_loose_turned.j0 k a0_0 a0_1 a0_2 a0_3 a0_1 a0_0 0 0)) = some (r1, r2, r3, r4) := h
 clear h
 have HC2 := Aside0.mk H
 clear H
 go_enter Tryd.func63, Tryd.ntmps63
 go_upto_if 13 with (first | ((with_reducible refine gate_dst (N := 1) rfl ?_); refine box_event ?hg (N := 1) ?hd (cs := #[.int .i64 a0_0, .int .i64 a0_1, .int .i64 a0_2, .int .i64 a0_3]) (t := 100) ?hr ?_; (case hd => rfl); (case hg => rfl); (case hr => first | (go_simp; done) | (go_simp; rfl)); intro gb122 hg w3 hbox hb; have n0_ := sb HB hb; have n1_ := Aside0.mk (hbox); have n2_ := Aside0.mk ((by rw [hg]; exact (below_size (bl HB.out)) : w.heap.size ≤ gb122)); have n3_ := Aside0.mk ((by rw [hg]; exact (below_size (bl HB.out)) : w.heap.size ≤ gb122)); clear HB; have HB := n0_; have BK122 := n1_; have GW122 := n2_; have GE122 := n3_; clear n0_ n1_ n2_ n3_; clear hb hbox hg) | ((with_reducible refine gate_dst (N := 2) rfl ?_); refine box_event ?hg (N := 2) ?hd (cs := #[.int .i64 0, .int .i64 0, .int .i64 0, .int .i64 0]) (t := 100) ?hr ?_; (case hd => rfl); (case hg => rfl); (case hr => first | (go_simp; done) | (go_simp; rfl)); intro gb123 hg w4 hbox hb; have n0_ := kb BK122 hb; have n1_ := sb HB hb; have n2_ := Aside0.mk (hbox); have n3_ := Aside0.mk ((by rw [hg]; exact (below_size (bl HB.out)) : w.heap.size ≤ gb123)); have n4_ := Aside0.mk ((by rw [hg]; exact (below_size (bl HB.out)) : w.heap.size ≤ gb123)); have n5_ := Aside0.mk ((by rw [hg]; exact Nat.ne_of_lt (blk_lt (kp BK122.out)) : gb122 ≠ gb123)); have n6_ := Aside0.mk ((by rw [hg]; exact Nat.ne_of_gt (blk_lt (kp BK122.out)) : gb123 ≠ gb122)); clear BK122; clear HB; have BK122 := n0_; have HB := n1_; have BK123 := n2_; have GW123 := n3_; have GE123 := n4_; have NB122_123 := n5_; have NB123_122 := n6_; clear n0_ n1_ n2_ n3_ n4_ n5_ n6_; clear hb hbox hg; have hnb5 := NB122_123.out; have hnc5 := NB123_122.out; obtain ⟨hcz6_0, hcz6_1, hcz6_2, hcz6_3⟩ := hc4 BK122.out; obtain ⟨hfz6_0, hfz6_1, hfz6_2, hfz6_3⟩ := hf4 BK122.out) | ((with_reducible refine gate_dst (N := 3) rfl ?_); refine box_event ?hg (N := 3) ?hd (cs := #[.int .i64 0, .int .i64 0, .int .i64 0, .int .i64 0]) (t := 100) ?hr ?_; (case hd => rfl); (case hg => rfl); (case hr => first | (go_simp; done) | (go_simp; rfl)); intro gb124 hg w7 hbox hb; have n0_ := kb BK122 hb; have n1_ := kb BK123 hb; have n2_ := sb HB hb; have n3_ := Aside0.mk (hbox); have n4_ := Aside0.mk ((by rw [hg]; exact (below_size (bl HB.out)) : w.heap.size ≤ gb124)); have n5_ := Aside0.mk ((by rw [hg]; exact (below_size (bl HB.out)) : w.heap.size ≤ gb124)); have n6_ := Aside0.mk ((by rw [hg]; exact Nat.ne_of_lt (blk_lt (kp BK122.out)) : gb122 ≠ gb124)); have n7_ := Aside0.mk ((by rw [hg]; exact Nat.ne_of_gt (blk_lt (kp BK122.out)) : gb124 ≠ gb122)); have n8_ := Aside0.mk ((by rw [hg]; exact Nat.ne_of_lt (blk_lt (kp BK123.out)) : gb123 ≠ gb124)); have n9_ := Aside0.mk ((by rw [hg]; exact Nat.ne_of_gt (blk_lt (kp BK123.out)) : gb124 ≠ gb123)); clear BK122; clear BK123; clear HB; have BK122 := n0_; have BK123 := n1_; have HB := n2_; have BK124 := n3_; have GW124 := n4_; have GE124 := n5_; have NB122_124 := n6_; have NB124_122 := n7_; have NB123_124 := n8_; have NB124_123 := n9_; clear n0_ n1_ n2_ n3_ n4_ n5_ n6_ n7_ n8_ n9_; clear hb hbox hg; have hnb8 := NB124_122.out; have hnc8 := NB122_124.out; have hnb9 := NB124_123.out; have hnc9 := NB123_124.out; obtain ⟨hcz10_0, hcz10_1, hcz10_2, hcz10_3⟩ := hc4 BK124.out; obtain ⟨hfz10_0, hfz10_1, hfz10_2, hfz10_3⟩ := hf4 BK124.out))
 (try simp only [Act.put, List.setIfInBounds_toArray, List.set_cons_zero, List.set_cons_succ])
 go_cut [] (fun wc => ∃ (kq : Nat) (x125000_1 : Int) (x125001_1 : Int), Aside0 (frac_loose_turned.j0 kq a0_0 a0_1 a0_2 a0_3 x125000_1 x125001_1 0 0 = some (r1, r2, r3, r4)) ∧ Aside0 (kq ≤ k) ∧ Aside0 (wc.heap[gb122]? = some (.cells #[.int .i64 a0_0, .int .i64 a0_1, .int .i64 a0_2, .int .i64 a0_3] 100 (0, 0))) ∧ Aside0 (wc.heap[gb123]? = some (.cells #[.int .i64 0, .int .i64 0, .int .i64 0, .int .i64 0] 100 (0, 0))) ∧ Aside0 (wc.heap[gb124]? = some (.cells #[.int .i64 x125000_1, .int .i64 x125001_1, .int .i64 0, .int .i64 0] 100 (0, 0))) ∧ Aside0 (Below w.heap.size w wc))
 case first =>
  have H := HC2.out
  clear HC2
  by_cases c11 : a0_0 < 0
  ·rw [if_pos c11] at H
   have c11b0 : decide (a0_0 < 0) = true := decide_eq_true c11
   clear c11
   (first | rw [c11b0] | (simp only [i64_w, i32_w]; rw [c11b0]) | skip)
   have H' := Aside0.mk H
   clear H
   have hnb12 := NB124_122.out
   have hnc12 := NB122_124.out
   have hnb13 := NB124_123.out
   have hnc13 := NB123_124.out
   obtain ⟨hcz14_0, hcz14_1, hcz14_2, hcz14_3⟩ := hc4 BK124.out
   obtain ⟨hfz14_0, hfz14_1, hfz14_2, hfz14_3⟩ := hf4 BK124.out
   go_wp2
   go_meet
   case rel => exact ⟨_, (wrap64 (-a0_1)), (wrap64 (-a0_0)), H', ⟨by first | omega | exact Nat.le_refl _⟩, ⟨kp BK122.out⟩, ⟨kp BK123.out⟩, ⟨kp (p4_1 (kp (p4_0 (kp (p4_3 (kp (p4_2 (kp (p4_1 (kp (p4_0 (kp BK124.out))))))))))))⟩, ⟨bl HB.out⟩⟩
  ·rw [if_neg c11] at H
   have c11b0 : decide (a0_0 < 0) = false := decide_eq_false c11
   clear c11
   (first | rw [c11b0] | (simp only [i64_w, i32_w]; rw [c11b0]) | skip)
   have H' := Aside0.mk H
   clear H
   go_wp2
   go_meet
   case rel => exact ⟨_, (a0_1), (a0_0), H', ⟨by first | omega | exact Nat.le_refl _⟩, ⟨kp BK122.out⟩, ⟨kp BK123.out⟩, ⟨kp (p4_3 (kp (p4_2 (kp (p4_1 (kp (p4_0 (kp BK124.out))))))))⟩, ⟨bl HB.out⟩⟩
 case rest =>
  clear HC2
  try clear c1
  try clear p2
  try clear c5
  try clear c6
  try clear p6
  try clear c8
  try clear c9
  try clear c11
  try clear c11b0
  try clear c12
  try clear c13
  try clear hcz10_0 hcz10_1 hcz10_2 hcz10_3
  try clear hcz14_0 hcz14_1 hcz14_2 hcz14_3
  try clear hcz6_0 hcz6_1 hcz6_2 hcz6_3
  try clear hfz10_0 hfz10_1 hfz10_2 hfz10_3
  try clear hfz14_0 hfz14_1 hfz14_2 hfz14_3
  try clear hfz6_0 hfz6_1 hfz6_2 hfz6_3
  obtain ⟨kq, x125000_1, x125001_1, HA, HJ1, BK122, BK123, BK124, HB⟩ := hcut
  cases kq with
  | zero => exact absurd HA.out (by simp [frac_loose_turned.j0])
  | succ kj1 =>
   have H := HA.out
   clear HA
   simp only [frac_loose_turned.j0] at H
   simp only [Option.some.injEq, Prod.mk.injEq] at H
   obtain ⟨rfl, rfl, rfl, rfl⟩ := H
   have hnb15 := NB122_123.out
   have hnc15 := NB123_122.out
   have hnb16 := NB122_124.out
   have hnc16 := NB124_122.out
   obtain ⟨hcz17_0, hcz17_1, hcz17_2, hcz17_3⟩ := hc4 BK122.out
   obtain ⟨hfz17_0, hfz17_1, hfz17_2, hfz17_3⟩ := hf4 BK122.out
   go_wp2
   refine wp_loop_rounds 41 ?_
   rw [rounds_succ]
   have hnb18 := NB124_123.out
   have hnc18 := NB123_124.out
   obtain ⟨hcz19_0, hcz19_1, hcz19_2, hcz19_3⟩ := hc4 BK124.out
   obtain ⟨hfz19_0, hfz19_1, hfz19_2, hfz19_3⟩ := hf4 BK124.out
   go_wp2
   rw [rounds_succ]
   have n0_ : Aside0 ((wc.setCell ⟨gb124, 2, none⟩ (.int .i64 (wrap64 (-a0_2)))).heap[gb122]? = some (.cells #[.int .i64 a0_0, .int .i64 a0_1, .int .i64 a0_2, .int .i64 a0_3] 100 (0, 0))) := ⟨kp BK122.out⟩
   have n1_ : Aside0 ((wc.setCell ⟨gb124, 2, none⟩ (.int .i64 (wrap64 (-a0_2)))).heap[gb123]? = some (.cells #[.int .i64 0, .int .i64 0, .int .i64 0, .int .i64 0] 100 (0, 0))) := ⟨kp BK123.out⟩
   have n2_ : Aside0 ((wc.setCell ⟨gb124, 2, none⟩ (.int .i64 (wrap64 (-a0_2)))).heap[gb124]? = some (.cells #[.int .i64 x125000_1, .int .i64 x125001_1, .int .i64 (wrap64 (-a0_2)), .int .i64 0] 100 (0, 0))) := ⟨kp (p4_2 (kp BK124.out))⟩
   have n3_ : Aside0 (Below w.heap.size w (wc.setCell ⟨gb124, 2, none⟩ (.int .i64 (wrap64 (-a0_2))))) := ⟨bl HB.out⟩
   (try clear BK122)
   (try clear BK123)
   (try clear BK124)
   (try clear HB)
   generalize (wc.setCell ⟨gb124, 2, none⟩ (.int .i64 (wrap64 (-a0_2)))) = w20 at n0_ n1_ n2_ n3_ ⊢
   have BK122 := n0_
   have BK123 := n1_
   have BK124 := n2_
   have HB := n3_
   clear n0_ n1_ n2_ n3_
   (try (rw [drewN_self w20]; generalize hq_ : World.drewN w20 _ = w20; replace BK122 := Aside0.mk (kq hq_ BK122.out); replace BK123 := Aside0.mk (kq hq_ BK123.out); replace BK124 := Aside0.mk (kq hq_ BK124.out); replace HB := Aside0.mk (bq hq_ HB.out); clear hq_))
   obtain ⟨hcz21_0, hcz21_1, hcz21_2, hcz21_3⟩ := hc4 BK124.out
   obtain ⟨hfz21_0, hfz21_1, hfz21_2, hfz21_3⟩ := hf4 BK124.out
   go_wp2
   rw [rounds_succ]
   have n0_ : Aside0 ((w20.setCell ⟨gb124, 3, none⟩ (.int .i64 (wrap64 (-a0_3)))).heap[gb122]? = some (.cells #[.int .i64 a0_0, .int .i64 a0_1, .int .i64 a0_2, .int .i64 a0_3] 100 (0, 0))) := ⟨kp BK122.out⟩
   have n1_ : Aside0 ((w20.setCell ⟨gb124, 3, none⟩ (.int .i64 (wrap64 (-a0_3)))).heap[gb123]? = some (.cells #[.int .i64 0, .int .i64 0, .int .i64 0, .int .i64 0] 100 (0, 0))) := ⟨kp BK123.out⟩
   have n2_ : Aside0 ((w20.setCell ⟨gb124, 3, none⟩ (.int .i64 (wrap64 (-a0_3)))).heap[gb124]? = some (.cells #[.int .i64 x125000_1, .int .i64 x125001_1, .int .i64 (wrap64 (-a0_2)), .int .i64 (wrap64 (-a0_3))] 100 (0, 0))) := ⟨kp (p4_3 (kp BK124.out))⟩
   have n3_ : Aside0 (Below w.heap.size w (w20.setCell ⟨gb124, 3, none⟩ (.int .i64 (wrap64 (-a0_3))))) := ⟨bl HB.out⟩
   (try clear BK122)
   (try clear BK123)
   (try clear BK124)
   (try clear HB)
   generalize (w20.setCell ⟨gb124, 3, none⟩ (.int .i64 (wrap64 (-a0_3)))) = w22 at n0_ n1_ n2_ n3_ ⊢
   have BK122 := n0_
   have BK123 := n1_
   have BK124 := n2_
   have HB := n3_
   clear n0_ n1_ n2_ n3_
   (try (rw [drewN_self w22]; generalize hq_ : World.drewN w22 _ = w22; replace BK122 := Aside0.mk (kq hq_ BK122.out); replace BK123 := Aside0.mk (kq hq_ BK123.out); replace BK124 := Aside0.mk (kq hq_ BK124.out); replace HB := Aside0.mk (bq hq_ HB.out); clear hq_))
   obtain ⟨hcz23_0, hcz23_1, hcz23_2, hcz23_3⟩ := hc4 BK124.out
   obtain ⟨hfz23_0, hfz23_1, hfz23_2, hfz23_3⟩ := hf4 BK124.out
   obtain ⟨hcz24_0, hcz24_1, hcz24_2, hcz24_3⟩ := hc4 BK123.out
   obtain ⟨hfz24_0, hfz24_1, hfz24_2, hfz24_3⟩ := hf4 BK123.out
   go_wp2
   refine bodyPost_ret (results_cell_row rfl _ _ gb123 100 #[.int .i64 x125000_1, .int .i64 x125001_1, .int .i64 (wrap64 (-a0_2)), .int .i64 (wrap64 (-a0_3))] (0, 0) _ rfl (kp (p4_3 (kp (p4_2 (kp (p4_1 (kp (p4_0 (kp BK123.out))))))))) Tryd.underlying100 rfl (by kernel_rfl)) rfl ?_
   exact ⟨by first | rfl | (simp [errW_none, errW_some] <;> rfl) | (simp [*, errW_none, errW_some] <;> rfl), bl HB.out⟩

end Go.Proofs.YthfibffgmoblaaaDoor.PC

