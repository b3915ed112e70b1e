/- DimsEnds: for any base and any power the law's function answers true. Its conditions: whole numbers of 64 bits; the listed variables as they were laid. -/
import Derived.Test.YtclpbnfcajbmkaaDoorTy7
namespace Go.Proofs.YtclpbnfcajbmkaaDoor.Di
open Go Go.RowKit Go.Shelf Go.Proofs Go.Proofs.YtclpbnfcajbmkaaDoor Go.Proofs.YtclpbnfcajbmkaaDoor.PB Go.Proofs.YtclpbnfcajbmkaaDoor.PQ Go.Proofs.YtclpbnfcajbmkaaDoor.Bu Go.Proofs.YtclpbnfcajbmkaaDoor.Sq Go.Proofs.YtclpbnfcajbmkaaDoorW.PrintWords Go.Proofs.YtclpbnfcajbmkaaDoorW.PrintLast Go.Proofs.YtclpbnfcajbmkaaDoorW.PrintMore
attribute [local go_sem] max2_int min2_int max_two min_two max_three min_three max_four min_four   -- for this text's walks alone
set_option linter.unusedVariables false
set_option linter.unusedSimpArgs false
set_option maxHeartbeats 8000000 in
set_option maxRecDepth 100000 in
theorem ends_walk (base n : Int) (hn0 : -9223372036854775808 ≤ n) (hn1 : n ≤ 9223372036854775807) (w : World) (hG : Glob [1, 2, 3] w) :
    Calls Tryd.prog 8 #[.int .i64 base, .int .i64 n] w fun e w' => e = .returned (.bool true) ∧ Below w.heap.size w w' := by
  have hu23 := Tryd.underlying23
  have HG := Aside0.mk hG
  clear hG
  have hr := tm_range 6 base (by decide)
  have hm2 := Int.tmod_lt_of_pos (tm 6 base + 7) (show (0 : Int) < 7 by decide)
  have hm3 := Int.tmod_nonneg (7 : Int) (show 0 ≤ tm 6 base + 7 by omega)
  obtain ⟨i, hi⟩ : ∃ i : Nat, Int.tmod (tm 6 base + 7) 7 = (i : Int) := ⟨(Int.tmod (tm 6 base + 7) 7).toNat, by omega⟩
  have hi7 : i < 7 := by omega
  have hw : Int.tmod (wrap64 (Int.tmod base 7 + 7)) 7 = (i : Int) := by rw [show Int.tmod base 7 = tm 6 base from rfl, Di.wrap_small _ (by omega) (by omega), hi]
  clear hi hm2 hm3 hr
  obtain ⟨x0, x1, x2, x3, x4, x5, x6, hx⟩ := e7_add i hi7 n
  obtain ⟨y0, y1, y2, y3, y4, y5, y6, hy⟩ := e7_sub i hi7 n
  obtain ⟨z0, z1, z2, z3, z4, z5, z6, hz⟩ := e7_times i hi7 n hn0 hn1
  have hA : allR (L7 (e7 i n)) = decide (-99 ≤ n ∧ n ≤ 99) := e7_right i hi7 n
  have HX0 := Aside0.mk hx; have HY0 := Aside0.mk hy; have HZ0 := Aside0.mk hz; have HA0 := Aside0.mk hA
  clear hx hy hz hA
  go_enter Tryd.func8, Tryd.ntmps8
  go_upto_region 4 with (first
    | (go_at_call 9; (with_reducible refine (drachmlaw03_awake.calls true _ HG.out awake_val).mono ?_); rintro e w_ ⟨rfl, hb⟩; have HB := Aside0.mk hb; clear hb)
    | ((with_reducible refine gate_dst (N := 7) rfl ?_); refine box_event ?hg (N := 7) ?hd (cs := A7 fun _ => 0) (t := 23) ?hr ?_; (case hd => rfl); (case hg => rfl); (case hr => first | (go_simp; done) | (go_simp; rfl)); intro ga hg_ wa_ hbox hb; have Ga := Aside0.mk (bsz (bl HB.out) hg_ : w.heap.size ≤ ga); replace HB := Aside0.mk (below_step (bl HB.out) hb); have Ba := Aside0.mk hbox; obtain ⟨ca0_, ca1_, ca2_, ca3_, ca4_, ca5_, ca6_⟩ := hc7 Ba.out; obtain ⟨fa0_, fa1_, fa2_, fa3_, fa4_, fa5_, fa6_⟩ := hf7 Ba.out; clear hbox hb hg_))
  clear hw
  clear ca0_ ca1_ ca2_ ca3_ ca4_ ca5_ ca6_ fa0_ fa1_ fa2_ fa3_ fa4_ fa5_ fa6_
  have Ba_n := Aside0.mk (show (((((((wa_.setCell ⟨ga, 0, none⟩ (.int .i64 0)).setCell ⟨ga, 1, none⟩ (.int .i64 0)).setCell ⟨ga, 2, none⟩ (.int .i64 0)).setCell ⟨ga, 3, none⟩ (.int .i64 0)).setCell ⟨ga, 4, none⟩ (.int .i64 0)).setCell ⟨ga, 5, none⟩ (.int .i64 0)).setCell ⟨ga, 6, none⟩ (.int .i64 0)).heap[ga]? = some (.cells (A7 fun _ => 0) 23 (0, 0)) from kp (p7_6 (kp (p7_5 (kp (p7_4 (kp (p7_3 (kp (p7_2 (kp (p7_1 (kp (p7_0 (kp Ba.out)))))))))))))))
  have HB_n := Aside0.mk (show Below w.heap.size w (((((((wa_.setCell ⟨ga, 0, none⟩ (.int .i64 0)).setCell ⟨ga, 1, none⟩ (.int .i64 0)).setCell ⟨ga, 2, none⟩ (.int .i64 0)).setCell ⟨ga, 3, none⟩ (.int .i64 0)).setCell ⟨ga, 4, none⟩ (.int .i64 0)).setCell ⟨ga, 5, none⟩ (.int .i64 0)).setCell ⟨ga, 6, none⟩ (.int .i64 0)) from bl HB.out)
  clear Ba HB
  generalize (((((((wa_.setCell ⟨ga, 0, none⟩ (.int .i64 0)).setCell ⟨ga, 1, none⟩ (.int .i64 0)).setCell ⟨ga, 2, none⟩ (.int .i64 0)).setCell ⟨ga, 3, none⟩ (.int .i64 0)).setCell ⟨ga, 4, none⟩ (.int .i64 0)).setCell ⟨ga, 5, none⟩ (.int .i64 0)).setCell ⟨ga, 6, none⟩ (.int .i64 0)) = W1 at Ba_n HB_n ⊢
  have Ba := Ba_n
  have HB := HB_n
  clear Ba_n HB_n
  have ci : W1.cell? ⟨ga, i, none⟩ = some (.int .i64 0) := get7n Ba.out i hi7
  have fi := blk_frozen Ba.out i
  go_upto_region 5 with (fail)
  clear ci fi
  have Ba_n := Aside0.mk (show (W1.setCell ⟨ga, i, none⟩ (.int .i64 n)).heap[ga]? = some (.cells (A7 (e7 i n)) 23 (0, 0)) from put7n Ba.out i n hi7)
  have HB_n := Aside0.mk (show Below w.heap.size w (W1.setCell ⟨ga, i, none⟩ (.int .i64 n)) from bl HB.out)
  clear Ba HB
  generalize (W1.setCell ⟨ga, i, none⟩ (.int .i64 n)) = W2 at Ba_n HB_n ⊢
  have Ba := Ba_n
  have HB := HB_n
  clear Ba_n HB_n
  go_upto_region 6 with (first | ((with_reducible refine gate_dst (N := 8) rfl ?_); refine box_event ?hg (N := 8) ?hd (cs := A7 fun _ => 0) (t := 23) ?hr ?_; (case hd => rfl); (case hg => rfl); (case hr => first | (go_simp; done) | (go_simp; rfl)); intro gb hg_ wb_ hbox hb; have Gb := Aside0.mk (bsz (bl HB.out) hg_ : w.heap.size ≤ gb); have Nab := Aside0.mk (nlt (kp Ba.out) hg_ : ga ≠ gb); have Nba := Aside0.mk (ngt (kp Ba.out) hg_ : gb ≠ ga); replace Ba := Aside0.mk (blk_below (kp Ba.out) hb); replace HB := Aside0.mk (below_step (bl HB.out) hb); have Bb := Aside0.mk hbox; obtain ⟨cb0_, cb1_, cb2_, cb3_, cb4_, cb5_, cb6_⟩ := hc7 Bb.out; obtain ⟨fb0_, fb1_, fb2_, fb3_, fb4_, fb5_, fb6_⟩ := hf7 Bb.out; clear hbox hb hg_))
  clear cb0_ cb1_ cb2_ cb3_ cb4_ cb5_ cb6_ fb0_ fb1_ fb2_ fb3_ fb4_ fb5_ fb6_
  have Ba_n := Aside0.mk (show (((((((wb_.setCell ⟨gb, 0, none⟩ (.int .i64 0)).setCell ⟨gb, 1, none⟩ (.int .i64 0)).setCell ⟨gb, 2, none⟩ (.int .i64 0)).setCell ⟨gb, 3, none⟩ (.int .i64 0)).setCell ⟨gb, 4, none⟩ (.int .i64 0)).setCell ⟨gb, 5, none⟩ (.int .i64 0)).setCell ⟨gb, 6, none⟩ (.int .i64 0)).heap[ga]? = some (.cells (A7 (e7 i n)) 23 (0, 0)) from kp Ba.out)
  have Bb_n := Aside0.mk (show (((((((wb_.setCell ⟨gb, 0, none⟩ (.int .i64 0)).setCell ⟨gb, 1, none⟩ (.int .i64 0)).setCell ⟨gb, 2, none⟩ (.int .i64 0)).setCell ⟨gb, 3, none⟩ (.int .i64 0)).setCell ⟨gb, 4, none⟩ (.int .i64 0)).setCell ⟨gb, 5, none⟩ (.int .i64 0)).setCell ⟨gb, 6, none⟩ (.int .i64 0)).heap[gb]? = some (.cells (A7 fun _ => 0) 23 (0, 0)) from kp (p7_6 (kp (p7_5 (kp (p7_4 (kp (p7_3 (kp (p7_2 (kp (p7_1 (kp (p7_0 (kp Bb.out)))))))))))))))
  have HB_n := Aside0.mk (show Below w.heap.size w (((((((wb_.setCell ⟨gb, 0, none⟩ (.int .i64 0)).setCell ⟨gb, 1, none⟩ (.int .i64 0)).setCell ⟨gb, 2, none⟩ (.int .i64 0)).setCell ⟨gb, 3, none⟩ (.int .i64 0)).setCell ⟨gb, 4, none⟩ (.int .i64 0)).setCell ⟨gb, 5, none⟩ (.int .i64 0)).setCell ⟨gb, 6, none⟩ (.int .i64 0)) from bl HB.out)
  clear Ba Bb HB
  generalize (((((((wb_.setCell ⟨gb, 0, none⟩ (.int .i64 0)).setCell ⟨gb, 1, none⟩ (.int .i64 0)).setCell ⟨gb, 2, none⟩ (.int .i64 0)).setCell ⟨gb, 3, none⟩ (.int .i64 0)).setCell ⟨gb, 4, none⟩ (.int .i64 0)).setCell ⟨gb, 5, none⟩ (.int .i64 0)).setCell ⟨gb, 6, none⟩ (.int .i64 0)) = W3 at Ba_n Bb_n HB_n ⊢
  have Ba := Ba_n
  have Bb := Bb_n
  have HB := HB_n
  clear Ba_n Bb_n HB_n
  have ci : W3.cell? ⟨gb, i, none⟩ = some (.int .i64 0) := get7n Bb.out i hi7
  have fi := blk_frozen Bb.out i
  have n1 := Nab.out; have n2 := Nba.out
  go_upto_region 7 with (fail)
  clear ci fi
  have Ba_n := Aside0.mk (show (W3.setCell ⟨gb, i, none⟩ (.int .i64 1)).heap[ga]? = some (.cells (A7 (e7 i n)) 23 (0, 0)) from kp Ba.out)
  have Bb_n := Aside0.mk (show (W3.setCell ⟨gb, i, none⟩ (.int .i64 1)).heap[gb]? = some (.cells (A7 (e7 i 1)) 23 (0, 0)) from put7n Bb.out i 1 hi7)
  have HB_n := Aside0.mk (show Below w.heap.size w (W3.setCell ⟨gb, i, none⟩ (.int .i64 1)) from bl HB.out)
  clear Ba Bb HB
  generalize (W3.setCell ⟨gb, i, none⟩ (.int .i64 1)) = W4 at Ba_n Bb_n HB_n ⊢
  have Ba := Ba_n
  have Bb := Bb_n
  have HB := HB_n
  clear Ba_n Bb_n HB_n
  obtain ⟨ca0_, ca1_, ca2_, ca3_, ca4_, ca5_, ca6_⟩ := hc7 Ba.out
  obtain ⟨cb0_, cb1_, cb2_, cb3_, cb4_, cb5_, cb6_⟩ := hc7 Bb.out
  have hway : (n < -99) ∨ (n = -99) ∨ (-99 < n ∧ n < 99) ∨ (n = 99) ∨ (99 < n) := by omega
  rcases hway with hc | hc | hc | hc | hc
  · have p1 : ¬ -99 ≤ n := by omega
    have p2 : n ≤ 99 := by omega
    have p3 : n < 99 := by omega
    have p4 : ¬ -99 < n := by omega
    clear hc
    have hx := HX0.out; have hy := HY0.out; have hz := HZ0.out; have hA := HA0.out
    rw [show decide ((-99 ≤ n ∧ n ≤ 99) ∧ n < 99) = false from decide_eq_false (by omega)] at hx
    rw [show decide ((-99 ≤ n ∧ n ≤ 99) ∧ n > -99) = false from decide_eq_false (by omega)] at hy
    rw [show decide (-99 ≤ n ∧ n ≤ 99) = false from decide_eq_false (by omega)] at hz hA
    have HX := Aside0.mk hx; have HY := Aside0.mk hy; have HZ := Aside0.mk hz
    have hri : dims_Right.f (e7 i n 0) (e7 i n 1) (e7 i n 2) (e7 i n 3) (e7 i n 4) (e7 i n 5) (e7 i n 6) = some false := congrArg some hA
    have HR := Aside0.mk hri
    have ht : dims_Text.f (e7 i n 0) (e7 i n 1) (e7 i n 2) (e7 i n 3) (e7 i n 4) (e7 i n 5) (e7 i n 6) = some ⟨#[]⟩ := congrArg some (if_neg (by rw [hA]; decide) : textOf (e7 i n) = ⟨#[]⟩)
    have HT := Aside0.mk ht; clear ht
    clear hx hy hz hA hri
    go_upto_region 9 with (first | (go_at_call 16; (with_reducible refine (dims_Add.calls (e7 i n 0) (e7 i n 1) (e7 i n 2) (e7 i n 3) (e7 i n 4) (e7 i n 5) (e7 i n 6) (e7 i 1 0) (e7 i 1 1) (e7 i 1 2) (e7 i 1 3) (e7 i 1 4) (e7 i 1 5) (e7 i 1 6) x0 x1 x2 x3 x4 x5 x6 false _ HX.out).mono ?_); rintro e w_ ⟨rfl, hb⟩; replace Ba := Aside0.mk (blk_below (kp Ba.out) hb); replace Bb := Aside0.mk (blk_below (kp Bb.out) hb); replace HB := Aside0.mk (below_step (bl HB.out) hb); clear ca0_ ca1_ ca2_ ca3_ ca4_ ca5_ ca6_ cb0_ cb1_ cb2_ cb3_ cb4_ cb5_ cb6_; obtain ⟨ca0_, ca1_, ca2_, ca3_, ca4_, ca5_, ca6_⟩ := hc7 Ba.out; obtain ⟨cb0_, cb1_, cb2_, cb3_, cb4_, cb5_, cb6_⟩ := hc7 Bb.out; clear hb HX) | ((with_reducible refine gate_dst (N := 10) rfl ?_); refine box_event ?hg (N := 10) ?hd (cs := A7 fun _ => 0) (t := 23) ?hr ?_; (case hd => rfl); (case hg => rfl); (case hr => first | (go_simp; done) | (go_simp; rfl)); intro gx hg_ wx_ hbox hb; have Gx := Aside0.mk (bsz (bl HB.out) hg_ : w.heap.size ≤ gx); have Nax := Aside0.mk (nlt (kp Ba.out) hg_ : ga ≠ gx); have Nxa := Aside0.mk (ngt (kp Ba.out) hg_ : gx ≠ ga); have Nbx := Aside0.mk (nlt (kp Bb.out) hg_ : gb ≠ gx); have Nxb := Aside0.mk (ngt (kp Bb.out) hg_ : gx ≠ gb); replace Ba := Aside0.mk (blk_below (kp Ba.out) hb); replace Bb := Aside0.mk (blk_below (kp Bb.out) hb); replace HB := Aside0.mk (below_step (bl HB.out) hb); have Bx := Aside0.mk hbox; clear ca0_ ca1_ ca2_ ca3_ ca4_ ca5_ ca6_ cb0_ cb1_ cb2_ cb3_ cb4_ cb5_ cb6_; obtain ⟨ca0_, ca1_, ca2_, ca3_, ca4_, ca5_, ca6_⟩ := hc7 Ba.out; obtain ⟨cb0_, cb1_, cb2_, cb3_, cb4_, cb5_, cb6_⟩ := hc7 Bb.out; obtain ⟨cx0_, cx1_, cx2_, cx3_, cx4_, cx5_, cx6_⟩ := hc7 Bx.out; obtain ⟨fx0_, fx1_, fx2_, fx3_, fx4_, fx5_, fx6_⟩ := hf7 Bx.out; clear hbox hb hg_))
    clear cx0_ cx1_ cx2_ cx3_ cx4_ cx5_ cx6_ fx0_ fx1_ fx2_ fx3_ fx4_ fx5_ fx6_
    clear ca0_ ca1_ ca2_ ca3_ ca4_ ca5_ ca6_ cb0_ cb1_ cb2_ cb3_ cb4_ cb5_ cb6_
    have Ba_n := Aside0.mk (show (((((((wx_.setCell ⟨gx, 0, none⟩ (.int .i64 x0)).setCell ⟨gx, 1, none⟩ (.int .i64 x1)).setCell ⟨gx, 2, none⟩ (.int .i64 x2)).setCell ⟨gx, 3, none⟩ (.int .i64 x3)).setCell ⟨gx, 4, none⟩ (.int .i64 x4)).setCell ⟨gx, 5, none⟩ (.int .i64 x5)).setCell ⟨gx, 6, none⟩ (.int .i64 x6)).heap[ga]? = some (.cells (A7 (e7 i n)) 23 (0, 0)) from kp Ba.out)
    have Bb_n := Aside0.mk (show (((((((wx_.setCell ⟨gx, 0, none⟩ (.int .i64 x0)).setCell ⟨gx, 1, none⟩ (.int .i64 x1)).setCell ⟨gx, 2, none⟩ (.int .i64 x2)).setCell ⟨gx, 3, none⟩ (.int .i64 x3)).setCell ⟨gx, 4, none⟩ (.int .i64 x4)).setCell ⟨gx, 5, none⟩ (.int .i64 x5)).setCell ⟨gx, 6, none⟩ (.int .i64 x6)).heap[gb]? = some (.cells (A7 (e7 i 1)) 23 (0, 0)) from kp Bb.out)
    have HB_n := Aside0.mk (show Below w.heap.size w (((((((wx_.setCell ⟨gx, 0, none⟩ (.int .i64 x0)).setCell ⟨gx, 1, none⟩ (.int .i64 x1)).setCell ⟨gx, 2, none⟩ (.int .i64 x2)).setCell ⟨gx, 3, none⟩ (.int .i64 x3)).setCell ⟨gx, 4, none⟩ (.int .i64 x4)).setCell ⟨gx, 5, none⟩ (.int .i64 x5)).setCell ⟨gx, 6, none⟩ (.int .i64 x6)) from bl HB.out)
    clear Ba Bb HB
    generalize (((((((wx_.setCell ⟨gx, 0, none⟩ (.int .i64 x0)).setCell ⟨gx, 1, none⟩ (.int .i64 x1)).setCell ⟨gx, 2, none⟩ (.int .i64 x2)).setCell ⟨gx, 3, none⟩ (.int .i64 x3)).setCell ⟨gx, 4, none⟩ (.int .i64 x4)).setCell ⟨gx, 5, none⟩ (.int .i64 x5)).setCell ⟨gx, 6, none⟩ (.int .i64 x6)) = W5 at Ba_n Bb_n HB_n ⊢
    have Ba := Ba_n
    have Bb := Bb_n
    have HB := HB_n
    clear Ba_n Bb_n HB_n
    obtain ⟨ca0_, ca1_, ca2_, ca3_, ca4_, ca5_, ca6_⟩ := hc7 Ba.out
    obtain ⟨cb0_, cb1_, cb2_, cb3_, cb4_, cb5_, cb6_⟩ := hc7 Bb.out
    go_upto_region 10 with (first | (go_at_call 19; (with_reducible refine (dims_Sub.calls (e7 i n 0) (e7 i n 1) (e7 i n 2) (e7 i n 3) (e7 i n 4) (e7 i n 5) (e7 i n 6) (e7 i 1 0) (e7 i 1 1) (e7 i 1 2) (e7 i 1 3) (e7 i 1 4) (e7 i 1 5) (e7 i 1 6) y0 y1 y2 y3 y4 y5 y6 false _ HY.out).mono ?_); rintro e w_ ⟨rfl, hb⟩; replace Ba := Aside0.mk (blk_below (kp Ba.out) hb); replace Bb := Aside0.mk (blk_below (kp Bb.out) hb); replace HB := Aside0.mk (below_step (bl HB.out) hb); clear ca0_ ca1_ ca2_ ca3_ ca4_ ca5_ ca6_ cb0_ cb1_ cb2_ cb3_ cb4_ cb5_ cb6_; obtain ⟨ca0_, ca1_, ca2_, ca3_, ca4_, ca5_, ca6_⟩ := hc7 Ba.out; obtain ⟨cb0_, cb1_, cb2_, cb3_, cb4_, cb5_, cb6_⟩ := hc7 Bb.out; clear hb HY) | ((with_reducible refine gate_dst (N := 12) rfl ?_); refine box_event ?hg (N := 12) ?hd (cs := A7 fun _ => 0) (t := 23) ?hr ?_; (case hd => rfl); (case hg => rfl); (case hr => first | (go_simp; done) | (go_simp; rfl)); intro gy hg_ wy_ hbox hb; have Gy := Aside0.mk (bsz (bl HB.out) hg_ : w.heap.size ≤ gy); have Nay := Aside0.mk (nlt (kp Ba.out) hg_ : ga ≠ gy); have Nya := Aside0.mk (ngt (kp Ba.out) hg_ : gy ≠ ga); have Nby := Aside0.mk (nlt (kp Bb.out) hg_ : gb ≠ gy); have Nyb := Aside0.mk (ngt (kp Bb.out) hg_ : gy ≠ gb); replace Ba := Aside0.mk (blk_below (kp Ba.out) hb); replace Bb := Aside0.mk (blk_below (kp Bb.out) hb); replace HB := Aside0.mk (below_step (bl HB.out) hb); have By := Aside0.mk hbox; clear ca0_ ca1_ ca2_ ca3_ ca4_ ca5_ ca6_ cb0_ cb1_ cb2_ cb3_ cb4_ cb5_ cb6_; obtain ⟨ca0_, ca1_, ca2_, ca3_, ca4_, ca5_, ca6_⟩ := hc7 Ba.out; obtain ⟨cb0_, cb1_, cb2_, cb3_, cb4_, cb5_, cb6_⟩ := hc7 Bb.out; obtain ⟨cy0_, cy1_, cy2_, cy3_, cy4_, cy5_, cy6_⟩ := hc7 By.out; obtain ⟨fy0_, fy1_, fy2_, fy3_, fy4_, fy5_, fy6_⟩ := hf7 By.out; clear hbox hb hg_))
    clear cy0_ cy1_ cy2_ cy3_ cy4_ cy5_ cy6_ fy0_ fy1_ fy2_ fy3_ fy4_ fy5_ fy6_
    clear ca0_ ca1_ ca2_ ca3_ ca4_ ca5_ ca6_ cb0_ cb1_ cb2_ cb3_ cb4_ cb5_ cb6_
    have Ba_n := Aside0.mk (show (((((((wy_.setCell ⟨gy, 0, none⟩ (.int .i64 y0)).setCell ⟨gy, 1, none⟩ (.int .i64 y1)).setCell ⟨gy, 2, none⟩ (.int .i64 y2)).setCell ⟨gy, 3, none⟩ (.int .i64 y3)).setCell ⟨gy, 4, none⟩ (.int .i64 y4)).setCell ⟨gy, 5, none⟩ (.int .i64 y5)).setCell ⟨gy, 6, none⟩ (.int .i64 y6)).heap[ga]? = some (.cells (A7 (e7 i n)) 23 (0, 0)) from kp Ba.out)
    have Bb_n := Aside0.mk (show (((((((wy_.setCell ⟨gy, 0, none⟩ (.int .i64 y0)).setCell ⟨gy, 1, none⟩ (.int .i64 y1)).setCell ⟨gy, 2, none⟩ (.int .i64 y2)).setCell ⟨gy, 3, none⟩ (.int .i64 y3)).setCell ⟨gy, 4, none⟩ (.int .i64 y4)).setCell ⟨gy, 5, none⟩ (.int .i64 y5)).setCell ⟨gy, 6, none⟩ (.int .i64 y6)).heap[gb]? = some (.cells (A7 (e7 i 1)) 23 (0, 0)) from kp Bb.out)
    have HB_n := Aside0.mk (show Below w.heap.size w (((((((wy_.setCell ⟨gy, 0, none⟩ (.int .i64 y0)).setCell ⟨gy, 1, none⟩ (.int .i64 y1)).setCell ⟨gy, 2, none⟩ (.int .i64 y2)).setCell ⟨gy, 3, none⟩ (.int .i64 y3)).setCell ⟨gy, 4, none⟩ (.int .i64 y4)).setCell ⟨gy, 5, none⟩ (.int .i64 y5)).setCell ⟨gy, 6, none⟩ (.int .i64 y6)) from bl HB.out)
    clear Ba Bb HB
    generalize (((((((wy_.setCell ⟨gy, 0, none⟩ (.int .i64 y0)).setCell ⟨gy, 1, none⟩ (.int .i64 y1)).setCell ⟨gy, 2, none⟩ (.int .i64 y2)).setCell ⟨gy, 3, none⟩ (.int .i64 y3)).setCell ⟨gy, 4, none⟩ (.int .i64 y4)).setCell ⟨gy, 5, none⟩ (.int .i64 y5)).setCell ⟨gy, 6, none⟩ (.int .i64 y6)) = W6 at Ba_n Bb_n HB_n ⊢
    have Ba := Ba_n
    have Bb := Bb_n
    have HB := HB_n
    clear Ba_n Bb_n HB_n
    obtain ⟨ca0_, ca1_, ca2_, ca3_, ca4_, ca5_, ca6_⟩ := hc7 Ba.out
    obtain ⟨cb0_, cb1_, cb2_, cb3_, cb4_, cb5_, cb6_⟩ := hc7 Bb.out
    go_upto_region 11 with (first | (go_at_call 15; (with_reducible refine (dims_Times.calls (e7 i 1 0) (e7 i 1 1) (e7 i 1 2) (e7 i 1 3) (e7 i 1 4) (e7 i 1 5) (e7 i 1 6) n z0 z1 z2 z3 z4 z5 z6 false _ HZ.out).mono ?_); rintro e w_ ⟨rfl, hb⟩; replace Ba := Aside0.mk (blk_below (kp Ba.out) hb); replace Bb := Aside0.mk (blk_below (kp Bb.out) hb); replace HB := Aside0.mk (below_step (bl HB.out) hb); clear ca0_ ca1_ ca2_ ca3_ ca4_ ca5_ ca6_ cb0_ cb1_ cb2_ cb3_ cb4_ cb5_ cb6_; obtain ⟨ca0_, ca1_, ca2_, ca3_, ca4_, ca5_, ca6_⟩ := hc7 Ba.out; obtain ⟨cb0_, cb1_, cb2_, cb3_, cb4_, cb5_, cb6_⟩ := hc7 Bb.out; clear hb HZ) | ((with_reducible refine gate_dst (N := 14) rfl ?_); refine box_event ?hg (N := 14) ?hd (cs := A7 fun _ => 0) (t := 23) ?hr ?_; (case hd => rfl); (case hg => rfl); (case hr => first | (go_simp; done) | (go_simp; rfl)); intro gz hg_ wz_ hbox hb; have Gz := Aside0.mk (bsz (bl HB.out) hg_ : w.heap.size ≤ gz); have Naz := Aside0.mk (nlt (kp Ba.out) hg_ : ga ≠ gz); have Nza := Aside0.mk (ngt (kp Ba.out) hg_ : gz ≠ ga); have Nbz := Aside0.mk (nlt (kp Bb.out) hg_ : gb ≠ gz); have Nzb := Aside0.mk (ngt (kp Bb.out) hg_ : gz ≠ gb); replace Ba := Aside0.mk (blk_below (kp Ba.out) hb); replace Bb := Aside0.mk (blk_below (kp Bb.out) hb); replace HB := Aside0.mk (below_step (bl HB.out) hb); have Bz := Aside0.mk hbox; clear ca0_ ca1_ ca2_ ca3_ ca4_ ca5_ ca6_ cb0_ cb1_ cb2_ cb3_ cb4_ cb5_ cb6_; obtain ⟨ca0_, ca1_, ca2_, ca3_, ca4_, ca5_, ca6_⟩ := hc7 Ba.out; obtain ⟨cb0_, cb1_, cb2_, cb3_, cb4_, cb5_, cb6_⟩ := hc7 Bb.out; obtain ⟨cz0_, cz1_, cz2_, cz3_, cz4_, cz5_, cz6_⟩ := hc7 Bz.out; obtain ⟨fz0_, fz1_, fz2_, fz3_, fz4_, fz5_, fz6_⟩ := hf7 Bz.out; clear hbox hb hg_))
    clear cz0_ cz1_ cz2_ cz3_ cz4_ cz5_ cz6_ fz0_ fz1_ fz2_ fz3_ fz4_ fz5_ fz6_
    clear ca0_ ca1_ ca2_ ca3_ ca4_ ca5_ ca6_ cb0_ cb1_ cb2_ cb3_ cb4_ cb5_ cb6_
    have Ba_n := Aside0.mk (show (((((((wz_.setCell ⟨gz, 0, none⟩ (.int .i64 z0)).setCell ⟨gz, 1, none⟩ (.int .i64 z1)).setCell ⟨gz, 2, none⟩ (.int .i64 z2)).setCell ⟨gz, 3, none⟩ (.int .i64 z3)).setCell ⟨gz, 4, none⟩ (.int .i64 z4)).setCell ⟨gz, 5, none⟩ (.int .i64 z5)).setCell ⟨gz, 6, none⟩ (.int .i64 z6)).heap[ga]? = some (.cells (A7 (e7 i n)) 23 (0, 0)) from kp Ba.out)
    have Bb_n := Aside0.mk (show (((((((wz_.setCell ⟨gz, 0, none⟩ (.int .i64 z0)).setCell ⟨gz, 1, none⟩ (.int .i64 z1)).setCell ⟨gz, 2, none⟩ (.int .i64 z2)).setCell ⟨gz, 3, none⟩ (.int .i64 z3)).setCell ⟨gz, 4, none⟩ (.int .i64 z4)).setCell ⟨gz, 5, none⟩ (.int .i64 z5)).setCell ⟨gz, 6, none⟩ (.int .i64 z6)).heap[gb]? = some (.cells (A7 (e7 i 1)) 23 (0, 0)) from kp Bb.out)
    have HB_n := Aside0.mk (show Below w.heap.size w (((((((wz_.setCell ⟨gz, 0, none⟩ (.int .i64 z0)).setCell ⟨gz, 1, none⟩ (.int .i64 z1)).setCell ⟨gz, 2, none⟩ (.int .i64 z2)).setCell ⟨gz, 3, none⟩ (.int .i64 z3)).setCell ⟨gz, 4, none⟩ (.int .i64 z4)).setCell ⟨gz, 5, none⟩ (.int .i64 z5)).setCell ⟨gz, 6, none⟩ (.int .i64 z6)) from bl HB.out)
    clear Ba Bb HB
    generalize (((((((wz_.setCell ⟨gz, 0, none⟩ (.int .i64 z0)).setCell ⟨gz, 1, none⟩ (.int .i64 z1)).setCell ⟨gz, 2, none⟩ (.int .i64 z2)).setCell ⟨gz, 3, none⟩ (.int .i64 z3)).setCell ⟨gz, 4, none⟩ (.int .i64 z4)).setCell ⟨gz, 5, none⟩ (.int .i64 z5)).setCell ⟨gz, 6, none⟩ (.int .i64 z6)) = W7 at Ba_n Bb_n HB_n ⊢
    have Ba := Ba_n
    have Bb := Bb_n
    have HB := HB_n
    clear Ba_n Bb_n HB_n
    obtain ⟨ca0_, ca1_, ca2_, ca3_, ca4_, ca5_, ca6_⟩ := hc7 Ba.out
    obtain ⟨cb0_, cb1_, cb2_, cb3_, cb4_, cb5_, cb6_⟩ := hc7 Bb.out
    go_wp2_with (first | (go_at_call 13; (with_reducible refine (dims_Right.calls (e7 i n 0) (e7 i n 1) (e7 i n 2) (e7 i n 3) (e7 i n 4) (e7 i n 5) (e7 i n 6) false _ HR.out).mono ?_); rintro e w_ ⟨rfl, hb⟩; replace Ba := Aside0.mk (blk_below (kp Ba.out) hb); replace Bb := Aside0.mk (blk_below (kp Bb.out) hb); replace HB := Aside0.mk (below_step (bl HB.out) hb); clear ca0_ ca1_ ca2_ ca3_ ca4_ ca5_ ca6_ cb0_ cb1_ cb2_ cb3_ cb4_ cb5_ cb6_; obtain ⟨ca0_, ca1_, ca2_, ca3_, ca4_, ca5_, ca6_⟩ := hc7 Ba.out; obtain ⟨cb0_, cb1_, cb2_, cb3_, cb4_, cb5_, cb6_⟩ := hc7 Bb.out; clear hb HR) | (go_at_call 12; (with_reducible refine (dims_Text.calls (e7 i n 0) (e7 i n 1) (e7 i n 2) (e7 i n 3) (e7 i n 4) (e7 i n 5) (e7 i n 6) _ _ (Glob.use HG.out (by decide) HB.out) HT.out).mono ?_); rintro e w_ ⟨rfl, hb⟩; replace Ba := Aside0.mk (blk_below (kp Ba.out) hb); replace Bb := Aside0.mk (blk_below (kp Bb.out) hb); replace HB := Aside0.mk (below_step (bl HB.out) hb); clear ca0_ ca1_ ca2_ ca3_ ca4_ ca5_ ca6_ cb0_ cb1_ cb2_ cb3_ cb4_ cb5_ cb6_; obtain ⟨ca0_, ca1_, ca2_, ca3_, ca4_, ca5_, ca6_⟩ := hc7 Ba.out; obtain ⟨cb0_, cb1_, cb2_, cb3_, cb4_, cb5_, cb6_⟩ := hc7 Bb.out; clear hb HT))
    go_ret
    first | exact ⟨rfl, bl HB.out⟩ | exact ⟨congrArg (fun b => Ending.returned (Value.bool b)) (show (!decide (-99 < n)) = true by rw [decide_eq_false (by omega)]; rfl), bl HB.out⟩ | exact ⟨congrArg (fun b => Ending.returned (Value.bool b)) (show (!decide (n < 99)) = true by rw [decide_eq_false (by omega)]; rfl), bl HB.out⟩
  · have p1 : -99 ≤ n := by omega
    have p2 : n ≤ 99 := by omega
    have p3 : n < 99 := by omega
    have p4 : ¬ -99 < n := by omega
    clear hc
    have hx := HX0.out; have hy := HY0.out; have hz := HZ0.out; have hA := HA0.out
    rw [show decide ((-99 ≤ n ∧ n ≤ 99) ∧ n < 99) = true from decide_eq_true (by omega)] at hx
    rw [show decide ((-99 ≤ n ∧ n ≤ 99) ∧ n > -99) = false from decide_eq_false (by omega)] at hy
    rw [show decide (-99 ≤ n ∧ n ≤ 99) = true from decide_eq_true (by omega)] at hz hA
    have HX := Aside0.mk hx; have HY := Aside0.mk hy; have HZ := Aside0.mk hz
    have hri : dims_Right.f (e7 i n 0) (e7 i n 1) (e7 i n 2) (e7 i n 3) (e7 i n 4) (e7 i n 5) (e7 i n 6) = some true := congrArg some hA
    have HR := Aside0.mk hri
    clear hx hy hz hA hri
    go_upto_region 9 with (first | (go_at_call 16; (with_reducible refine (dims_Add.calls (e7 i n 0) (e7 i n 1) (e7 i n 2) (e7 i n 3) (e7 i n 4) (e7 i n 5) (e7 i n 6) (e7 i 1 0) (e7 i 1 1) (e7 i 1 2) (e7 i 1 3) (e7 i 1 4) (e7 i 1 5) (e7 i 1 6) x0 x1 x2 x3 x4 x5 x6 true _ HX.out).mono ?_); rintro e w_ ⟨rfl, hb⟩; replace Ba := Aside0.mk (blk_below (kp Ba.out) hb); replace Bb := Aside0.mk (blk_below (kp Bb.out) hb); replace HB := Aside0.mk (below_step (bl HB.out) hb); clear ca0_ ca1_ ca2_ ca3_ ca4_ ca5_ ca6_ cb0_ cb1_ cb2_ cb3_ cb4_ cb5_ cb6_; obtain ⟨ca0_, ca1_, ca2_, ca3_, ca4_, ca5_, ca6_⟩ := hc7 Ba.out; obtain ⟨cb0_, cb1_, cb2_, cb3_, cb4_, cb5_, cb6_⟩ := hc7 Bb.out; clear hb HX) | ((with_reducible refine gate_dst (N := 10) rfl ?_); refine box_event ?hg (N := 10) ?hd (cs := A7 fun _ => 0) (t := 23) ?hr ?_; (case hd => rfl); (case hg => rfl); (case hr => first | (go_simp; done) | (go_simp; rfl)); intro gx hg_ wx_ hbox hb; have Gx := Aside0.mk (bsz (bl HB.out) hg_ : w.heap.size ≤ gx); have Nax := Aside0.mk (nlt (kp Ba.out) hg_ : ga ≠ gx); have Nxa := Aside0.mk (ngt (kp Ba.out) hg_ : gx ≠ ga); have Nbx := Aside0.mk (nlt (kp Bb.out) hg_ : gb ≠ gx); have Nxb := Aside0.mk (ngt (kp Bb.out) hg_ : gx ≠ gb); replace Ba := Aside0.mk (blk_below (kp Ba.out) hb); replace Bb := Aside0.mk (blk_below (kp Bb.out) hb); replace HB := Aside0.mk (below_step (bl HB.out) hb); have Bx := Aside0.mk hbox; clear ca0_ ca1_ ca2_ ca3_ ca4_ ca5_ ca6_ cb0_ cb1_ cb2_ cb3_ cb4_ cb5_ cb6_; obtain ⟨ca0_, ca1_, ca2_, ca3_, ca4_, ca5_, ca6_⟩ := hc7 Ba.out; obtain ⟨cb0_, cb1_, cb2_, cb3_, cb4_, cb5_, cb6_⟩ := hc7 Bb.out; obtain ⟨cx0_, cx1_, cx2_, cx3_, cx4_, cx5_, cx6_⟩ := hc7 Bx.out; obtain ⟨fx0_, fx1_, fx2_, fx3_, fx4_, fx5_, fx6_⟩ := hf7 Bx.out; clear hbox hb hg_))
    clear cx0_ cx1_ cx2_ cx3_ cx4_ cx5_ cx6_ fx0_ fx1_ fx2_ fx3_ fx4_ fx5_ fx6_
    clear ca0_ ca1_ ca2_ ca3_ ca4_ ca5_ ca6_ cb0_ cb1_ cb2_ cb3_ cb4_ cb5_ cb6_
    have Ba_n := Aside0.mk (show (((((((wx_.setCell ⟨gx, 0, none⟩ (.int .i64 x0)).setCell ⟨gx, 1, none⟩ (.int .i64 x1)).setCell ⟨gx, 2, none⟩ (.int .i64 x2)).setCell ⟨gx, 3, none⟩ (.int .i64 x3)).setCell ⟨gx, 4, none⟩ (.int .i64 x4)).setCell ⟨gx, 5, none⟩ (.int .i64 x5)).setCell ⟨gx, 6, none⟩ (.int .i64 x6)).heap[ga]? = some (.cells (A7 (e7 i n)) 23 (0, 0)) from kp Ba.out)
    have Bb_n := Aside0.mk (show (((((((wx_.setCell ⟨gx, 0, none⟩ (.int .i64 x0)).setCell ⟨gx, 1, none⟩ (.int .i64 x1)).setCell ⟨gx, 2, none⟩ (.int .i64 x2)).setCell ⟨gx, 3, none⟩ (.int .i64 x3)).setCell ⟨gx, 4, none⟩ (.int .i64 x4)).setCell ⟨gx, 5, none⟩ (.int .i64 x5)).setCell ⟨gx, 6, none⟩ (.int .i64 x6)).heap[gb]? = some (.cells (A7 (e7 i 1)) 23 (0, 0)) from kp Bb.out)
    have HB_n := Aside0.mk (show Below w.heap.size w (((((((wx_.setCell ⟨gx, 0, none⟩ (.int .i64 x0)).setCell ⟨gx, 1, none⟩ (.int .i64 x1)).setCell ⟨gx, 2, none⟩ (.int .i64 x2)).setCell ⟨gx, 3, none⟩ (.int .i64 x3)).setCell ⟨gx, 4, none⟩ (.int .i64 x4)).setCell ⟨gx, 5, none⟩ (.int .i64 x5)).setCell ⟨gx, 6, none⟩ (.int .i64 x6)) from bl HB.out)
    clear Ba Bb HB
    generalize (((((((wx_.setCell ⟨gx, 0, none⟩ (.int .i64 x0)).setCell ⟨gx, 1, none⟩ (.int .i64 x1)).setCell ⟨gx, 2, none⟩ (.int .i64 x2)).setCell ⟨gx, 3, none⟩ (.int .i64 x3)).setCell ⟨gx, 4, none⟩ (.int .i64 x4)).setCell ⟨gx, 5, none⟩ (.int .i64 x5)).setCell ⟨gx, 6, none⟩ (.int .i64 x6)) = W5 at Ba_n Bb_n HB_n ⊢
    have Ba := Ba_n
    have Bb := Bb_n
    have HB := HB_n
    clear Ba_n Bb_n HB_n
    obtain ⟨ca0_, ca1_, ca2_, ca3_, ca4_, ca5_, ca6_⟩ := hc7 Ba.out
    obtain ⟨cb0_, cb1_, cb2_, cb3_, cb4_, cb5_, cb6_⟩ := hc7 Bb.out
    go_upto_region 10 with (first | (go_at_call 19; (with_reducible refine (dims_Sub.calls (e7 i n 0) (e7 i n 1) (e7 i n 2) (e7 i n 3) (e7 i n 4) (e7 i n 5) (e7 i n 6) (e7 i 1 0) (e7 i 1 1) (e7 i 1 2) (e7 i 1 3) (e7 i 1 4) (e7 i 1 5) (e7 i 1 6) y0 y1 y2 y3 y4 y5 y6 false _ HY.out).mono ?_); rintro e w_ ⟨rfl, hb⟩; replace Ba := Aside0.mk (blk_below (kp Ba.out) hb); replace Bb := Aside0.mk (blk_below (kp Bb.out) hb); replace HB := Aside0.mk (below_step (bl HB.out) hb); clear ca0_ ca1_ ca2_ ca3_ ca4_ ca5_ ca6_ cb0_ cb1_ cb2_ cb3_ cb4_ cb5_ cb6_; obtain ⟨ca0_, ca1_, ca2_, ca3_, ca4_, ca5_, ca6_⟩ := hc7 Ba.out; obtain ⟨cb0_, cb1_, cb2_, cb3_, cb4_, cb5_, cb6_⟩ := hc7 Bb.out; clear hb HY) | ((with_reducible refine gate_dst (N := 12) rfl ?_); refine box_event ?hg (N := 12) ?hd (cs := A7 fun _ => 0) (t := 23) ?hr ?_; (case hd => rfl); (case hg => rfl); (case hr => first | (go_simp; done) | (go_simp; rfl)); intro gy hg_ wy_ hbox hb; have Gy := Aside0.mk (bsz (bl HB.out) hg_ : w.heap.size ≤ gy); have Nay := Aside0.mk (nlt (kp Ba.out) hg_ : ga ≠ gy); have Nya := Aside0.mk (ngt (kp Ba.out) hg_ : gy ≠ ga); have Nby := Aside0.mk (nlt (kp Bb.out) hg_ : gb ≠ gy); have Nyb := Aside0.mk (ngt (kp Bb.out) hg_ : gy ≠ gb); replace Ba := Aside0.mk (blk_below (kp Ba.out) hb); replace Bb := Aside0.mk (blk_below (kp Bb.out) hb); replace HB := Aside0.mk (below_step (bl HB.out) hb); have By := Aside0.mk hbox; clear ca0_ ca1_ ca2_ ca3_ ca4_ ca5_ ca6_ cb0_ cb1_ cb2_ cb3_ cb4_ cb5_ cb6_; obtain ⟨ca0_, ca1_, ca2_, ca3_, ca4_, ca5_, ca6_⟩ := hc7 Ba.out; obtain ⟨cb0_, cb1_, cb2_, cb3_, cb4_, cb5_, cb6_⟩ := hc7 Bb.out; obtain ⟨cy0_, cy1_, cy2_, cy3_, cy4_, cy5_, cy6_⟩ := hc7 By.out; obtain ⟨fy0_, fy1_, fy2_, fy3_, fy4_, fy5_, fy6_⟩ := hf7 By.out; clear hbox hb hg_))
    clear cy0_ cy1_ cy2_ cy3_ cy4_ cy5_ cy6_ fy0_ fy1_ fy2_ fy3_ fy4_ fy5_ fy6_
    clear ca0_ ca1_ ca2_ ca3_ ca4_ ca5_ ca6_ cb0_ cb1_ cb2_ cb3_ cb4_ cb5_ cb6_
    have Ba_n := Aside0.mk (show (((((((wy_.setCell ⟨gy, 0, none⟩ (.int .i64 y0)).setCell ⟨gy, 1, none⟩ (.int .i64 y1)).setCell ⟨gy, 2, none⟩ (.int .i64 y2)).setCell ⟨gy, 3, none⟩ (.int .i64 y3)).setCell ⟨gy, 4, none⟩ (.int .i64 y4)).setCell ⟨gy, 5, none⟩ (.int .i64 y5)).setCell ⟨gy, 6, none⟩ (.int .i64 y6)).heap[ga]? = some (.cells (A7 (e7 i n)) 23 (0, 0)) from kp Ba.out)
    have Bb_n := Aside0.mk (show (((((((wy_.setCell ⟨gy, 0, none⟩ (.int .i64 y0)).setCell ⟨gy, 1, none⟩ (.int .i64 y1)).setCell ⟨gy, 2, none⟩ (.int .i64 y2)).setCell ⟨gy, 3, none⟩ (.int .i64 y3)).setCell ⟨gy, 4, none⟩ (.int .i64 y4)).setCell ⟨gy, 5, none⟩ (.int .i64 y5)).setCell ⟨gy, 6, none⟩ (.int .i64 y6)).heap[gb]? = some (.cells (A7 (e7 i 1)) 23 (0, 0)) from kp Bb.out)
    have HB_n := Aside0.mk (show Below w.heap.size w (((((((wy_.setCell ⟨gy, 0, none⟩ (.int .i64 y0)).setCell ⟨gy, 1, none⟩ (.int .i64 y1)).setCell ⟨gy, 2, none⟩ (.int .i64 y2)).setCell ⟨gy, 3, none⟩ (.int .i64 y3)).setCell ⟨gy, 4, none⟩ (.int .i64 y4)).setCell ⟨gy, 5, none⟩ (.int .i64 y5)).setCell ⟨gy, 6, none⟩ (.int .i64 y6)) from bl HB.out)
    clear Ba Bb HB
    generalize (((((((wy_.setCell ⟨gy, 0, none⟩ (.int .i64 y0)).setCell ⟨gy, 1, none⟩ (.int .i64 y1)).setCell ⟨gy, 2, none⟩ (.int .i64 y2)).setCell ⟨gy, 3, none⟩ (.int .i64 y3)).setCell ⟨gy, 4, none⟩ (.int .i64 y4)).setCell ⟨gy, 5, none⟩ (.int .i64 y5)).setCell ⟨gy, 6, none⟩ (.int .i64 y6)) = W6 at Ba_n Bb_n HB_n ⊢
    have Ba := Ba_n
    have Bb := Bb_n
    have HB := HB_n
    clear Ba_n Bb_n HB_n
    obtain ⟨ca0_, ca1_, ca2_, ca3_, ca4_, ca5_, ca6_⟩ := hc7 Ba.out
    obtain ⟨cb0_, cb1_, cb2_, cb3_, cb4_, cb5_, cb6_⟩ := hc7 Bb.out
    go_upto_region 11 with (first | (go_at_call 15; (with_reducible refine (dims_Times.calls (e7 i 1 0) (e7 i 1 1) (e7 i 1 2) (e7 i 1 3) (e7 i 1 4) (e7 i 1 5) (e7 i 1 6) n z0 z1 z2 z3 z4 z5 z6 true _ HZ.out).mono ?_); rintro e w_ ⟨rfl, hb⟩; replace Ba := Aside0.mk (blk_below (kp Ba.out) hb); replace Bb := Aside0.mk (blk_below (kp Bb.out) hb); replace HB := Aside0.mk (below_step (bl HB.out) hb); clear ca0_ ca1_ ca2_ ca3_ ca4_ ca5_ ca6_ cb0_ cb1_ cb2_ cb3_ cb4_ cb5_ cb6_; obtain ⟨ca0_, ca1_, ca2_, ca3_, ca4_, ca5_, ca6_⟩ := hc7 Ba.out; obtain ⟨cb0_, cb1_, cb2_, cb3_, cb4_, cb5_, cb6_⟩ := hc7 Bb.out; clear hb HZ) | ((with_reducible refine gate_dst (N := 14) rfl ?_); refine box_event ?hg (N := 14) ?hd (cs := A7 fun _ => 0) (t := 23) ?hr ?_; (case hd => rfl); (case hg => rfl); (case hr => first | (go_simp; done) | (go_simp; rfl)); intro gz hg_ wz_ hbox hb; have Gz := Aside0.mk (bsz (bl HB.out) hg_ : w.heap.size ≤ gz); have Naz := Aside0.mk (nlt (kp Ba.out) hg_ : ga ≠ gz); have Nza := Aside0.mk (ngt (kp Ba.out) hg_ : gz ≠ ga); have Nbz := Aside0.mk (nlt (kp Bb.out) hg_ : gb ≠ gz); have Nzb := Aside0.mk (ngt (kp Bb.out) hg_ : gz ≠ gb); replace Ba := Aside0.mk (blk_below (kp Ba.out) hb); replace Bb := Aside0.mk (blk_below (kp Bb.out) hb); replace HB := Aside0.mk (below_step (bl HB.out) hb); have Bz := Aside0.mk hbox; clear ca0_ ca1_ ca2_ ca3_ ca4_ ca5_ ca6_ cb0_ cb1_ cb2_ cb3_ cb4_ cb5_ cb6_; obtain ⟨ca0_, ca1_, ca2_, ca3_, ca4_, ca5_, ca6_⟩ := hc7 Ba.out; obtain ⟨cb0_, cb1_, cb2_, cb3_, cb4_, cb5_, cb6_⟩ := hc7 Bb.out; obtain ⟨cz0_, cz1_, cz2_, cz3_, cz4_, cz5_, cz6_⟩ := hc7 Bz.out; obtain ⟨fz0_, fz1_, fz2_, fz3_, fz4_, fz5_, fz6_⟩ := hf7 Bz.out; clear hbox hb hg_))
    clear cz0_ cz1_ cz2_ cz3_ cz4_ cz5_ cz6_ fz0_ fz1_ fz2_ fz3_ fz4_ fz5_ fz6_
    clear ca0_ ca1_ ca2_ ca3_ ca4_ ca5_ ca6_ cb0_ cb1_ cb2_ cb3_ cb4_ cb5_ cb6_
    have Ba_n := Aside0.mk (show (((((((wz_.setCell ⟨gz, 0, none⟩ (.int .i64 z0)).setCell ⟨gz, 1, none⟩ (.int .i64 z1)).setCell ⟨gz, 2, none⟩ (.int .i64 z2)).setCell ⟨gz, 3, none⟩ (.int .i64 z3)).setCell ⟨gz, 4, none⟩ (.int .i64 z4)).setCell ⟨gz, 5, none⟩ (.int .i64 z5)).setCell ⟨gz, 6, none⟩ (.int .i64 z6)).heap[ga]? = some (.cells (A7 (e7 i n)) 23 (0, 0)) from kp Ba.out)
    have Bb_n := Aside0.mk (show (((((((wz_.setCell ⟨gz, 0, none⟩ (.int .i64 z0)).setCell ⟨gz, 1, none⟩ (.int .i64 z1)).setCell ⟨gz, 2, none⟩ (.int .i64 z2)).setCell ⟨gz, 3, none⟩ (.int .i64 z3)).setCell ⟨gz, 4, none⟩ (.int .i64 z4)).setCell ⟨gz, 5, none⟩ (.int .i64 z5)).setCell ⟨gz, 6, none⟩ (.int .i64 z6)).heap[gb]? = some (.cells (A7 (e7 i 1)) 23 (0, 0)) from kp Bb.out)
    have HB_n := Aside0.mk (show Below w.heap.size w (((((((wz_.setCell ⟨gz, 0, none⟩ (.int .i64 z0)).setCell ⟨gz, 1, none⟩ (.int .i64 z1)).setCell ⟨gz, 2, none⟩ (.int .i64 z2)).setCell ⟨gz, 3, none⟩ (.int .i64 z3)).setCell ⟨gz, 4, none⟩ (.int .i64 z4)).setCell ⟨gz, 5, none⟩ (.int .i64 z5)).setCell ⟨gz, 6, none⟩ (.int .i64 z6)) from bl HB.out)
    clear Ba Bb HB
    generalize (((((((wz_.setCell ⟨gz, 0, none⟩ (.int .i64 z0)).setCell ⟨gz, 1, none⟩ (.int .i64 z1)).setCell ⟨gz, 2, none⟩ (.int .i64 z2)).setCell ⟨gz, 3, none⟩ (.int .i64 z3)).setCell ⟨gz, 4, none⟩ (.int .i64 z4)).setCell ⟨gz, 5, none⟩ (.int .i64 z5)).setCell ⟨gz, 6, none⟩ (.int .i64 z6)) = W7 at Ba_n Bb_n HB_n ⊢
    have Ba := Ba_n
    have Bb := Bb_n
    have HB := HB_n
    clear Ba_n Bb_n HB_n
    obtain ⟨ca0_, ca1_, ca2_, ca3_, ca4_, ca5_, ca6_⟩ := hc7 Ba.out
    obtain ⟨cb0_, cb1_, cb2_, cb3_, cb4_, cb5_, cb6_⟩ := hc7 Bb.out
    go_wp2_with (first | (go_at_call 13; (with_reducible refine (dims_Right.calls (e7 i n 0) (e7 i n 1) (e7 i n 2) (e7 i n 3) (e7 i n 4) (e7 i n 5) (e7 i n 6) true _ HR.out).mono ?_); rintro e w_ ⟨rfl, hb⟩; replace Ba := Aside0.mk (blk_below (kp Ba.out) hb); replace Bb := Aside0.mk (blk_below (kp Bb.out) hb); replace HB := Aside0.mk (below_step (bl HB.out) hb); clear ca0_ ca1_ ca2_ ca3_ ca4_ ca5_ ca6_ cb0_ cb1_ cb2_ cb3_ cb4_ cb5_ cb6_; obtain ⟨ca0_, ca1_, ca2_, ca3_, ca4_, ca5_, ca6_⟩ := hc7 Ba.out; obtain ⟨cb0_, cb1_, cb2_, cb3_, cb4_, cb5_, cb6_⟩ := hc7 Bb.out; clear hb HR))
    go_ret
    first | exact ⟨rfl, bl HB.out⟩ | exact ⟨congrArg (fun b => Ending.returned (Value.bool b)) (show (!decide (-99 < n)) = true by rw [decide_eq_false (by omega)]; rfl), bl HB.out⟩ | exact ⟨congrArg (fun b => Ending.returned (Value.bool b)) (show (!decide (n < 99)) = true by rw [decide_eq_false (by omega)]; rfl), bl HB.out⟩
  · have p1 : -99 ≤ n := by omega
    have p2 : n ≤ 99 := by omega
    have p3 : n < 99 := by omega
    have p4 : -99 < n := by omega
    clear hc
    have hx := HX0.out; have hy := HY0.out; have hz := HZ0.out; have hA := HA0.out
    rw [show decide ((-99 ≤ n ∧ n ≤ 99) ∧ n < 99) = true from decide_eq_true (by omega)] at hx
    rw [show decide ((-99 ≤ n ∧ n ≤ 99) ∧ n > -99) = true from decide_eq_true (by omega)] at hy
    rw [show decide (-99 ≤ n ∧ n ≤ 99) = true from decide_eq_true (by omega)] at hz hA
    have HX := Aside0.mk hx; have HY := Aside0.mk hy; have HZ := Aside0.mk hz
    have hri : dims_Right.f (e7 i n 0) (e7 i n 1) (e7 i n 2) (e7 i n 3) (e7 i n 4) (e7 i n 5) (e7 i n 6) = some true := congrArg some hA
    have HR := Aside0.mk hri
    clear hx hy hz hA hri
    go_upto_region 9 with (first | (go_at_call 16; (with_reducible refine (dims_Add.calls (e7 i n 0) (e7 i n 1) (e7 i n 2) (e7 i n 3) (e7 i n 4) (e7 i n 5) (e7 i n 6) (e7 i 1 0) (e7 i 1 1) (e7 i 1 2) (e7 i 1 3) (e7 i 1 4) (e7 i 1 5) (e7 i 1 6) x0 x1 x2 x3 x4 x5 x6 true _ HX.out).mono ?_); rintro e w_ ⟨rfl, hb⟩; replace Ba := Aside0.mk (blk_below (kp Ba.out) hb); replace Bb := Aside0.mk (blk_below (kp Bb.out) hb); replace HB := Aside0.mk (below_step (bl HB.out) hb); clear ca0_ ca1_ ca2_ ca3_ ca4_ ca5_ ca6_ cb0_ cb1_ cb2_ cb3_ cb4_ cb5_ cb6_; obtain ⟨ca0_, ca1_, ca2_, ca3_, ca4_, ca5_, ca6_⟩ := hc7 Ba.out; obtain ⟨cb0_, cb1_, cb2_, cb3_, cb4_, cb5_, cb6_⟩ := hc7 Bb.out; clear hb HX) | ((with_reducible refine gate_dst (N := 10) rfl ?_); refine box_event ?hg (N := 10) ?hd (cs := A7 fun _ => 0) (t := 23) ?hr ?_; (case hd => rfl); (case hg => rfl); (case hr => first | (go_simp; done) | (go_simp; rfl)); intro gx hg_ wx_ hbox hb; have Gx := Aside0.mk (bsz (bl HB.out) hg_ : w.heap.size ≤ gx); have Nax := Aside0.mk (nlt (kp Ba.out) hg_ : ga ≠ gx); have Nxa := Aside0.mk (ngt (kp Ba.out) hg_ : gx ≠ ga); have Nbx := Aside0.mk (nlt (kp Bb.out) hg_ : gb ≠ gx); have Nxb := Aside0.mk (ngt (kp Bb.out) hg_ : gx ≠ gb); replace Ba := Aside0.mk (blk_below (kp Ba.out) hb); replace Bb := Aside0.mk (blk_below (kp Bb.out) hb); replace HB := Aside0.mk (below_step (bl HB.out) hb); have Bx := Aside0.mk hbox; clear ca0_ ca1_ ca2_ ca3_ ca4_ ca5_ ca6_ cb0_ cb1_ cb2_ cb3_ cb4_ cb5_ cb6_; obtain ⟨ca0_, ca1_, ca2_, ca3_, ca4_, ca5_, ca6_⟩ := hc7 Ba.out; obtain ⟨cb0_, cb1_, cb2_, cb3_, cb4_, cb5_, cb6_⟩ := hc7 Bb.out; obtain ⟨cx0_, cx1_, cx2_, cx3_, cx4_, cx5_, cx6_⟩ := hc7 Bx.out; obtain ⟨fx0_, fx1_, fx2_, fx3_, fx4_, fx5_, fx6_⟩ := hf7 Bx.out; clear hbox hb hg_))
    clear cx0_ cx1_ cx2_ cx3_ cx4_ cx5_ cx6_ fx0_ fx1_ fx2_ fx3_ fx4_ fx5_ fx6_
    clear ca0_ ca1_ ca2_ ca3_ ca4_ ca5_ ca6_ cb0_ cb1_ cb2_ cb3_ cb4_ cb5_ cb6_
    have Ba_n := Aside0.mk (show (((((((wx_.setCell ⟨gx, 0, none⟩ (.int .i64 x0)).setCell ⟨gx, 1, none⟩ (.int .i64 x1)).setCell ⟨gx, 2, none⟩ (.int .i64 x2)).setCell ⟨gx, 3, none⟩ (.int .i64 x3)).setCell ⟨gx, 4, none⟩ (.int .i64 x4)).setCell ⟨gx, 5, none⟩ (.int .i64 x5)).setCell ⟨gx, 6, none⟩ (.int .i64 x6)).heap[ga]? = some (.cells (A7 (e7 i n)) 23 (0, 0)) from kp Ba.out)
    have Bb_n := Aside0.mk (show (((((((wx_.setCell ⟨gx, 0, none⟩ (.int .i64 x0)).setCell ⟨gx, 1, none⟩ (.int .i64 x1)).setCell ⟨gx, 2, none⟩ (.int .i64 x2)).setCell ⟨gx, 3, none⟩ (.int .i64 x3)).setCell ⟨gx, 4, none⟩ (.int .i64 x4)).setCell ⟨gx, 5, none⟩ (.int .i64 x5)).setCell ⟨gx, 6, none⟩ (.int .i64 x6)).heap[gb]? = some (.cells (A7 (e7 i 1)) 23 (0, 0)) from kp Bb.out)
    have HB_n := Aside0.mk (show Below w.heap.size w (((((((wx_.setCell ⟨gx, 0, none⟩ (.int .i64 x0)).setCell ⟨gx, 1, none⟩ (.int .i64 x1)).setCell ⟨gx, 2, none⟩ (.int .i64 x2)).setCell ⟨gx, 3, none⟩ (.int .i64 x3)).setCell ⟨gx, 4, none⟩ (.int .i64 x4)).setCell ⟨gx, 5, none⟩ (.int .i64 x5)).setCell ⟨gx, 6, none⟩ (.int .i64 x6)) from bl HB.out)
    clear Ba Bb HB
    generalize (((((((wx_.setCell ⟨gx, 0, none⟩ (.int .i64 x0)).setCell ⟨gx, 1, none⟩ (.int .i64 x1)).setCell ⟨gx, 2, none⟩ (.int .i64 x2)).setCell ⟨gx, 3, none⟩ (.int .i64 x3)).setCell ⟨gx, 4, none⟩ (.int .i64 x4)).setCell ⟨gx, 5, none⟩ (.int .i64 x5)).setCell ⟨gx, 6, none⟩ (.int .i64 x6)) = W5 at Ba_n Bb_n HB_n ⊢
    have Ba := Ba_n
    have Bb := Bb_n
    have HB := HB_n
    clear Ba_n Bb_n HB_n
    obtain ⟨ca0_, ca1_, ca2_, ca3_, ca4_, ca5_, ca6_⟩ := hc7 Ba.out
    obtain ⟨cb0_, cb1_, cb2_, cb3_, cb4_, cb5_, cb6_⟩ := hc7 Bb.out
    go_upto_region 10 with (first | (go_at_call 19; (with_reducible refine (dims_Sub.calls (e7 i n 0) (e7 i n 1) (e7 i n 2) (e7 i n 3) (e7 i n 4) (e7 i n 5) (e7 i n 6) (e7 i 1 0) (e7 i 1 1) (e7 i 1 2) (e7 i 1 3) (e7 i 1 4) (e7 i 1 5) (e7 i 1 6) y0 y1 y2 y3 y4 y5 y6 true _ HY.out).mono ?_); rintro e w_ ⟨rfl, hb⟩; replace Ba := Aside0.mk (blk_below (kp Ba.out) hb); replace Bb := Aside0.mk (blk_below (kp Bb.out) hb); replace HB := Aside0.mk (below_step (bl HB.out) hb); clear ca0_ ca1_ ca2_ ca3_ ca4_ ca5_ ca6_ cb0_ cb1_ cb2_ cb3_ cb4_ cb5_ cb6_; obtain ⟨ca0_, ca1_, ca2_, ca3_, ca4_, ca5_, ca6_⟩ := hc7 Ba.out; obtain ⟨cb0_, cb1_, cb2_, cb3_, cb4_, cb5_, cb6_⟩ := hc7 Bb.out; clear hb HY) | ((with_reducible refine gate_dst (N := 12) rfl ?_); refine box_event ?hg (N := 12) ?hd (cs := A7 fun _ => 0) (t := 23) ?hr ?_; (case hd => rfl); (case hg => rfl); (case hr => first | (go_simp; done) | (go_simp; rfl)); intro gy hg_ wy_ hbox hb; have Gy := Aside0.mk (bsz (bl HB.out) hg_ : w.heap.size ≤ gy); have Nay := Aside0.mk (nlt (kp Ba.out) hg_ : ga ≠ gy); have Nya := Aside0.mk (ngt (kp Ba.out) hg_ : gy ≠ ga); have Nby := Aside0.mk (nlt (kp Bb.out) hg_ : gb ≠ gy); have Nyb := Aside0.mk (ngt (kp Bb.out) hg_ : gy ≠ gb); replace Ba := Aside0.mk (blk_below (kp Ba.out) hb); replace Bb := Aside0.mk (blk_below (kp Bb.out) hb); replace HB := Aside0.mk (below_step (bl HB.out) hb); have By := Aside0.mk hbox; clear ca0_ ca1_ ca2_ ca3_ ca4_ ca5_ ca6_ cb0_ cb1_ cb2_ cb3_ cb4_ cb5_ cb6_; obtain ⟨ca0_, ca1_, ca2_, ca3_, ca4_, ca5_, ca6_⟩ := hc7 Ba.out; obtain ⟨cb0_, cb1_, cb2_, cb3_, cb4_, cb5_, cb6_⟩ := hc7 Bb.out; obtain ⟨cy0_, cy1_, cy2_, cy3_, cy4_, cy5_, cy6_⟩ := hc7 By.out; obtain ⟨fy0_, fy1_, fy2_, fy3_, fy4_, fy5_, fy6_⟩ := hf7 By.out; clear hbox hb hg_))
    clear cy0_ cy1_ cy2_ cy3_ cy4_ cy5_ cy6_ fy0_ fy1_ fy2_ fy3_ fy4_ fy5_ fy6_
    clear ca0_ ca1_ ca2_ ca3_ ca4_ ca5_ ca6_ cb0_ cb1_ cb2_ cb3_ cb4_ cb5_ cb6_
    have Ba_n := Aside0.mk (show (((((((wy_.setCell ⟨gy, 0, none⟩ (.int .i64 y0)).setCell ⟨gy, 1, none⟩ (.int .i64 y1)).setCell ⟨gy, 2, none⟩ (.int .i64 y2)).setCell ⟨gy, 3, none⟩ (.int .i64 y3)).setCell ⟨gy, 4, none⟩ (.int .i64 y4)).setCell ⟨gy, 5, none⟩ (.int .i64 y5)).setCell ⟨gy, 6, none⟩ (.int .i64 y6)).heap[ga]? = some (.cells (A7 (e7 i n)) 23 (0, 0)) from kp Ba.out)
    have Bb_n := Aside0.mk (show (((((((wy_.setCell ⟨gy, 0, none⟩ (.int .i64 y0)).setCell ⟨gy, 1, none⟩ (.int .i64 y1)).setCell ⟨gy, 2, none⟩ (.int .i64 y2)).setCell ⟨gy, 3, none⟩ (.int .i64 y3)).setCell ⟨gy, 4, none⟩ (.int .i64 y4)).setCell ⟨gy, 5, none⟩ (.int .i64 y5)).setCell ⟨gy, 6, none⟩ (.int .i64 y6)).heap[gb]? = some (.cells (A7 (e7 i 1)) 23 (0, 0)) from kp Bb.out)
    have HB_n := Aside0.mk (show Below w.heap.size w (((((((wy_.setCell ⟨gy, 0, none⟩ (.int .i64 y0)).setCell ⟨gy, 1, none⟩ (.int .i64 y1)).setCell ⟨gy, 2, none⟩ (.int .i64 y2)).setCell ⟨gy, 3, none⟩ (.int .i64 y3)).setCell ⟨gy, 4, none⟩ (.int .i64 y4)).setCell ⟨gy, 5, none⟩ (.int .i64 y5)).setCell ⟨gy, 6, none⟩ (.int .i64 y6)) from bl HB.out)
    clear Ba Bb HB
    generalize (((((((wy_.setCell ⟨gy, 0, none⟩ (.int .i64 y0)).setCell ⟨gy, 1, none⟩ (.int .i64 y1)).setCell ⟨gy, 2, none⟩ (.int .i64 y2)).setCell ⟨gy, 3, none⟩ (.int .i64 y3)).setCell ⟨gy, 4, none⟩ (.int .i64 y4)).setCell ⟨gy, 5, none⟩ (.int .i64 y5)).setCell ⟨gy, 6, none⟩ (.int .i64 y6)) = W6 at Ba_n Bb_n HB_n ⊢
    have Ba := Ba_n
    have Bb := Bb_n
    have HB := HB_n
    clear Ba_n Bb_n HB_n
    obtain ⟨ca0_, ca1_, ca2_, ca3_, ca4_, ca5_, ca6_⟩ := hc7 Ba.out
    obtain ⟨cb0_, cb1_, cb2_, cb3_, cb4_, cb5_, cb6_⟩ := hc7 Bb.out
    go_upto_region 11 with (first | (go_at_call 15; (with_reducible refine (dims_Times.calls (e7 i 1 0) (e7 i 1 1) (e7 i 1 2) (e7 i 1 3) (e7 i 1 4) (e7 i 1 5) (e7 i 1 6) n z0 z1 z2 z3 z4 z5 z6 true _ HZ.out).mono ?_); rintro e w_ ⟨rfl, hb⟩; replace Ba := Aside0.mk (blk_below (kp Ba.out) hb); replace Bb := Aside0.mk (blk_below (kp Bb.out) hb); replace HB := Aside0.mk (below_step (bl HB.out) hb); clear ca0_ ca1_ ca2_ ca3_ ca4_ ca5_ ca6_ cb0_ cb1_ cb2_ cb3_ cb4_ cb5_ cb6_; obtain ⟨ca0_, ca1_, ca2_, ca3_, ca4_, ca5_, ca6_⟩ := hc7 Ba.out; obtain ⟨cb0_, cb1_, cb2_, cb3_, cb4_, cb5_, cb6_⟩ := hc7 Bb.out; clear hb HZ) | ((with_reducible refine gate_dst (N := 14) rfl ?_); refine box_event ?hg (N := 14) ?hd (cs := A7 fun _ => 0) (t := 23) ?hr ?_; (case hd => rfl); (case hg => rfl); (case hr => first | (go_simp; done) | (go_simp; rfl)); intro gz hg_ wz_ hbox hb; have Gz := Aside0.mk (bsz (bl HB.out) hg_ : w.heap.size ≤ gz); have Naz := Aside0.mk (nlt (kp Ba.out) hg_ : ga ≠ gz); have Nza := Aside0.mk (ngt (kp Ba.out) hg_ : gz ≠ ga); have Nbz := Aside0.mk (nlt (kp Bb.out) hg_ : gb ≠ gz); have Nzb := Aside0.mk (ngt (kp Bb.out) hg_ : gz ≠ gb); replace Ba := Aside0.mk (blk_below (kp Ba.out) hb); replace Bb := Aside0.mk (blk_below (kp Bb.out) hb); replace HB := Aside0.mk (below_step (bl HB.out) hb); have Bz := Aside0.mk hbox; clear ca0_ ca1_ ca2_ ca3_ ca4_ ca5_ ca6_ cb0_ cb1_ cb2_ cb3_ cb4_ cb5_ cb6_; obtain ⟨ca0_, ca1_, ca2_, ca3_, ca4_, ca5_, ca6_⟩ := hc7 Ba.out; obtain ⟨cb0_, cb1_, cb2_, cb3_, cb4_, cb5_, cb6_⟩ := hc7 Bb.out; obtain ⟨cz0_, cz1_, cz2_, cz3_, cz4_, cz5_, cz6_⟩ := hc7 Bz.out; obtain ⟨fz0_, fz1_, fz2_, fz3_, fz4_, fz5_, fz6_⟩ := hf7 Bz.out; clear hbox hb hg_))
    clear cz0_ cz1_ cz2_ cz3_ cz4_ cz5_ cz6_ fz0_ fz1_ fz2_ fz3_ fz4_ fz5_ fz6_
    clear ca0_ ca1_ ca2_ ca3_ ca4_ ca5_ ca6_ cb0_ cb1_ cb2_ cb3_ cb4_ cb5_ cb6_
    have Ba_n := Aside0.mk (show (((((((wz_.setCell ⟨gz, 0, none⟩ (.int .i64 z0)).setCell ⟨gz, 1, none⟩ (.int .i64 z1)).setCell ⟨gz, 2, none⟩ (.int .i64 z2)).setCell ⟨gz, 3, none⟩ (.int .i64 z3)).setCell ⟨gz, 4, none⟩ (.int .i64 z4)).setCell ⟨gz, 5, none⟩ (.int .i64 z5)).setCell ⟨gz, 6, none⟩ (.int .i64 z6)).heap[ga]? = some (.cells (A7 (e7 i n)) 23 (0, 0)) from kp Ba.out)
    have Bb_n := Aside0.mk (show (((((((wz_.setCell ⟨gz, 0, none⟩ (.int .i64 z0)).setCell ⟨gz, 1, none⟩ (.int .i64 z1)).setCell ⟨gz, 2, none⟩ (.int .i64 z2)).setCell ⟨gz, 3, none⟩ (.int .i64 z3)).setCell ⟨gz, 4, none⟩ (.int .i64 z4)).setCell ⟨gz, 5, none⟩ (.int .i64 z5)).setCell ⟨gz, 6, none⟩ (.int .i64 z6)).heap[gb]? = some (.cells (A7 (e7 i 1)) 23 (0, 0)) from kp Bb.out)
    have HB_n := Aside0.mk (show Below w.heap.size w (((((((wz_.setCell ⟨gz, 0, none⟩ (.int .i64 z0)).setCell ⟨gz, 1, none⟩ (.int .i64 z1)).setCell ⟨gz, 2, none⟩ (.int .i64 z2)).setCell ⟨gz, 3, none⟩ (.int .i64 z3)).setCell ⟨gz, 4, none⟩ (.int .i64 z4)).setCell ⟨gz, 5, none⟩ (.int .i64 z5)).setCell ⟨gz, 6, none⟩ (.int .i64 z6)) from bl HB.out)
    clear Ba Bb HB
    generalize (((((((wz_.setCell ⟨gz, 0, none⟩ (.int .i64 z0)).setCell ⟨gz, 1, none⟩ (.int .i64 z1)).setCell ⟨gz, 2, none⟩ (.int .i64 z2)).setCell ⟨gz, 3, none⟩ (.int .i64 z3)).setCell ⟨gz, 4, none⟩ (.int .i64 z4)).setCell ⟨gz, 5, none⟩ (.int .i64 z5)).setCell ⟨gz, 6, none⟩ (.int .i64 z6)) = W7 at Ba_n Bb_n HB_n ⊢
    have Ba := Ba_n
    have Bb := Bb_n
    have HB := HB_n
    clear Ba_n Bb_n HB_n
    obtain ⟨ca0_, ca1_, ca2_, ca3_, ca4_, ca5_, ca6_⟩ := hc7 Ba.out
    obtain ⟨cb0_, cb1_, cb2_, cb3_, cb4_, cb5_, cb6_⟩ := hc7 Bb.out
    go_wp2_with (first | (go_at_call 13; (with_reducible refine (dims_Right.calls (e7 i n 0) (e7 i n 1) (e7 i n 2) (e7 i n 3) (e7 i n 4) (e7 i n 5) (e7 i n 6) true _ HR.out).mono ?_); rintro e w_ ⟨rfl, hb⟩; replace Ba := Aside0.mk (blk_below (kp Ba.out) hb); replace Bb := Aside0.mk (blk_below (kp Bb.out) hb); replace HB := Aside0.mk (below_step (bl HB.out) hb); clear ca0_ ca1_ ca2_ ca3_ ca4_ ca5_ ca6_ cb0_ cb1_ cb2_ cb3_ cb4_ cb5_ cb6_; obtain ⟨ca0_, ca1_, ca2_, ca3_, ca4_, ca5_, ca6_⟩ := hc7 Ba.out; obtain ⟨cb0_, cb1_, cb2_, cb3_, cb4_, cb5_, cb6_⟩ := hc7 Bb.out; clear hb HR))
    go_ret
    first | exact ⟨rfl, bl HB.out⟩ | exact ⟨congrArg (fun b => Ending.returned (Value.bool b)) (show (!decide (-99 < n)) = true by rw [decide_eq_false (by omega)]; rfl), bl HB.out⟩ | exact ⟨congrArg (fun b => Ending.returned (Value.bool b)) (show (!decide (n < 99)) = true by rw [decide_eq_false (by omega)]; rfl), bl HB.out⟩
  · have p1 : -99 ≤ n := by omega
    have p2 : n ≤ 99 := by omega
    have p3 : ¬ n < 99 := by omega
    have p4 : -99 < n := by omega
    clear hc
    have hx := HX0.out; have hy := HY0.out; have hz := HZ0.out; have hA := HA0.out
    rw [show decide ((-99 ≤ n ∧ n ≤ 99) ∧ n < 99) = false from decide_eq_false (by omega)] at hx
    rw [show decide ((-99 ≤ n ∧ n ≤ 99) ∧ n > -99) = true from decide_eq_true (by omega)] at hy
    rw [show decide (-99 ≤ n ∧ n ≤ 99) = true from decide_eq_true (by omega)] at hz hA
    have HX := Aside0.mk hx; have HY := Aside0.mk hy; have HZ := Aside0.mk hz
    have hri : dims_Right.f (e7 i n 0) (e7 i n 1) (e7 i n 2) (e7 i n 3) (e7 i n 4) (e7 i n 5) (e7 i n 6) = some true := congrArg some hA
    have HR := Aside0.mk hri
    clear hx hy hz hA hri
    go_upto_region 9 with (first | (go_at_call 16; (with_reducible refine (dims_Add.calls (e7 i n 0) (e7 i n 1) (e7 i n 2) (e7 i n 3) (e7 i n 4) (e7 i n 5) (e7 i n 6) (e7 i 1 0) (e7 i 1 1) (e7 i 1 2) (e7 i 1 3) (e7 i 1 4) (e7 i 1 5) (e7 i 1 6) x0 x1 x2 x3 x4 x5 x6 false _ HX.out).mono ?_); rintro e w_ ⟨rfl, hb⟩; replace Ba := Aside0.mk (blk_below (kp Ba.out) hb); replace Bb := Aside0.mk (blk_below (kp Bb.out) hb); replace HB := Aside0.mk (below_step (bl HB.out) hb); clear ca0_ ca1_ ca2_ ca3_ ca4_ ca5_ ca6_ cb0_ cb1_ cb2_ cb3_ cb4_ cb5_ cb6_; obtain ⟨ca0_, ca1_, ca2_, ca3_, ca4_, ca5_, ca6_⟩ := hc7 Ba.out; obtain ⟨cb0_, cb1_, cb2_, cb3_, cb4_, cb5_, cb6_⟩ := hc7 Bb.out; clear hb HX) | ((with_reducible refine gate_dst (N := 10) rfl ?_); refine box_event ?hg (N := 10) ?hd (cs := A7 fun _ => 0) (t := 23) ?hr ?_; (case hd => rfl); (case hg => rfl); (case hr => first | (go_simp; done) | (go_simp; rfl)); intro gx hg_ wx_ hbox hb; have Gx := Aside0.mk (bsz (bl HB.out) hg_ : w.heap.size ≤ gx); have Nax := Aside0.mk (nlt (kp Ba.out) hg_ : ga ≠ gx); have Nxa := Aside0.mk (ngt (kp Ba.out) hg_ : gx ≠ ga); have Nbx := Aside0.mk (nlt (kp Bb.out) hg_ : gb ≠ gx); have Nxb := Aside0.mk (ngt (kp Bb.out) hg_ : gx ≠ gb); replace Ba := Aside0.mk (blk_below (kp Ba.out) hb); replace Bb := Aside0.mk (blk_below (kp Bb.out) hb); replace HB := Aside0.mk (below_step (bl HB.out) hb); have Bx := Aside0.mk hbox; clear ca0_ ca1_ ca2_ ca3_ ca4_ ca5_ ca6_ cb0_ cb1_ cb2_ cb3_ cb4_ cb5_ cb6_; obtain ⟨ca0_, ca1_, ca2_, ca3_, ca4_, ca5_, ca6_⟩ := hc7 Ba.out; obtain ⟨cb0_, cb1_, cb2_, cb3_, cb4_, cb5_, cb6_⟩ := hc7 Bb.out; obtain ⟨cx0_, cx1_, cx2_, cx3_, cx4_, cx5_, cx6_⟩ := hc7 Bx.out; obtain ⟨fx0_, fx1_, fx2_, fx3_, fx4_, fx5_, fx6_⟩ := hf7 Bx.out; clear hbox hb hg_))
    clear cx0_ cx1_ cx2_ cx3_ cx4_ cx5_ cx6_ fx0_ fx1_ fx2_ fx3_ fx4_ fx5_ fx6_
    clear ca0_ ca1_ ca2_ ca3_ ca4_ ca5_ ca6_ cb0_ cb1_ cb2_ cb3_ cb4_ cb5_ cb6_
    have Ba_n := Aside0.mk (show (((((((wx_.setCell ⟨gx, 0, none⟩ (.int .i64 x0)).setCell ⟨gx, 1, none⟩ (.int .i64 x1)).setCell ⟨gx, 2, none⟩ (.int .i64 x2)).setCell ⟨gx, 3, none⟩ (.int .i64 x3)).setCell ⟨gx, 4, none⟩ (.int .i64 x4)).setCell ⟨gx, 5, none⟩ (.int .i64 x5)).setCell ⟨gx, 6, none⟩ (.int .i64 x6)).heap[ga]? = some (.cells (A7 (e7 i n)) 23 (0, 0)) from kp Ba.out)
    have Bb_n := Aside0.mk (show (((((((wx_.setCell ⟨gx, 0, none⟩ (.int .i64 x0)).setCell ⟨gx, 1, none⟩ (.int .i64 x1)).setCell ⟨gx, 2, none⟩ (.int .i64 x2)).setCell ⟨gx, 3, none⟩ (.int .i64 x3)).setCell ⟨gx, 4, none⟩ (.int .i64 x4)).setCell ⟨gx, 5, none⟩ (.int .i64 x5)).setCell ⟨gx, 6, none⟩ (.int .i64 x6)).heap[gb]? = some (.cells (A7 (e7 i 1)) 23 (0, 0)) from kp Bb.out)
    have HB_n := Aside0.mk (show Below w.heap.size w (((((((wx_.setCell ⟨gx, 0, none⟩ (.int .i64 x0)).setCell ⟨gx, 1, none⟩ (.int .i64 x1)).setCell ⟨gx, 2, none⟩ (.int .i64 x2)).setCell ⟨gx, 3, none⟩ (.int .i64 x3)).setCell ⟨gx, 4, none⟩ (.int .i64 x4)).setCell ⟨gx, 5, none⟩ (.int .i64 x5)).setCell ⟨gx, 6, none⟩ (.int .i64 x6)) from bl HB.out)
    clear Ba Bb HB
    generalize (((((((wx_.setCell ⟨gx, 0, none⟩ (.int .i64 x0)).setCell ⟨gx, 1, none⟩ (.int .i64 x1)).setCell ⟨gx, 2, none⟩ (.int .i64 x2)).setCell ⟨gx, 3, none⟩ (.int .i64 x3)).setCell ⟨gx, 4, none⟩ (.int .i64 x4)).setCell ⟨gx, 5, none⟩ (.int .i64 x5)).setCell ⟨gx, 6, none⟩ (.int .i64 x6)) = W5 at Ba_n Bb_n HB_n ⊢
    have Ba := Ba_n
    have Bb := Bb_n
    have HB := HB_n
    clear Ba_n Bb_n HB_n
    obtain ⟨ca0_, ca1_, ca2_, ca3_, ca4_, ca5_, ca6_⟩ := hc7 Ba.out
    obtain ⟨cb0_, cb1_, cb2_, cb3_, cb4_, cb5_, cb6_⟩ := hc7 Bb.out
    go_upto_region 10 with (first | (go_at_call 19; (with_reducible refine (dims_Sub.calls (e7 i n 0) (e7 i n 1) (e7 i n 2) (e7 i n 3) (e7 i n 4) (e7 i n 5) (e7 i n 6) (e7 i 1 0) (e7 i 1 1) (e7 i 1 2) (e7 i 1 3) (e7 i 1 4) (e7 i 1 5) (e7 i 1 6) y0 y1 y2 y3 y4 y5 y6 true _ HY.out).mono ?_); rintro e w_ ⟨rfl, hb⟩; replace Ba := Aside0.mk (blk_below (kp Ba.out) hb); replace Bb := Aside0.mk (blk_below (kp Bb.out) hb); replace HB := Aside0.mk (below_step (bl HB.out) hb); clear ca0_ ca1_ ca2_ ca3_ ca4_ ca5_ ca6_ cb0_ cb1_ cb2_ cb3_ cb4_ cb5_ cb6_; obtain ⟨ca0_, ca1_, ca2_, ca3_, ca4_, ca5_, ca6_⟩ := hc7 Ba.out; obtain ⟨cb0_, cb1_, cb2_, cb3_, cb4_, cb5_, cb6_⟩ := hc7 Bb.out; clear hb HY) | ((with_reducible refine gate_dst (N := 12) rfl ?_); refine box_event ?hg (N := 12) ?hd (cs := A7 fun _ => 0) (t := 23) ?hr ?_; (case hd => rfl); (case hg => rfl); (case hr => first | (go_simp; done) | (go_simp; rfl)); intro gy hg_ wy_ hbox hb; have Gy := Aside0.mk (bsz (bl HB.out) hg_ : w.heap.size ≤ gy); have Nay := Aside0.mk (nlt (kp Ba.out) hg_ : ga ≠ gy); have Nya := Aside0.mk (ngt (kp Ba.out) hg_ : gy ≠ ga); have Nby := Aside0.mk (nlt (kp Bb.out) hg_ : gb ≠ gy); have Nyb := Aside0.mk (ngt (kp Bb.out) hg_ : gy ≠ gb); replace Ba := Aside0.mk (blk_below (kp Ba.out) hb); replace Bb := Aside0.mk (blk_below (kp Bb.out) hb); replace HB := Aside0.mk (below_step (bl HB.out) hb); have By := Aside0.mk hbox; clear ca0_ ca1_ ca2_ ca3_ ca4_ ca5_ ca6_ cb0_ cb1_ cb2_ cb3_ cb4_ cb5_ cb6_; obtain ⟨ca0_, ca1_, ca2_, ca3_, ca4_, ca5_, ca6_⟩ := hc7 Ba.out; obtain ⟨cb0_, cb1_, cb2_, cb3_, cb4_, cb5_, cb6_⟩ := hc7 Bb.out; obtain ⟨cy0_, cy1_, cy2_, cy3_, cy4_, cy5_, cy6_⟩ := hc7 By.out; obtain ⟨fy0_, fy1_, fy2_, fy3_, fy4_, fy5_, fy6_⟩ := hf7 By.out; clear hbox hb hg_))
    clear cy0_ cy1_ cy2_ cy3_ cy4_ cy5_ cy6_ fy0_ fy1_ fy2_ fy3_ fy4_ fy5_ fy6_
    clear ca0_ ca1_ ca2_ ca3_ ca4_ ca5_ ca6_ cb0_ cb1_ cb2_ cb3_ cb4_ cb5_ cb6_
    have Ba_n := Aside0.mk (show (((((((wy_.setCell ⟨gy, 0, none⟩ (.int .i64 y0)).setCell ⟨gy, 1, none⟩ (.int .i64 y1)).setCell ⟨gy, 2, none⟩ (.int .i64 y2)).setCell ⟨gy, 3, none⟩ (.int .i64 y3)).setCell ⟨gy, 4, none⟩ (.int .i64 y4)).setCell ⟨gy, 5, none⟩ (.int .i64 y5)).setCell ⟨gy, 6, none⟩ (.int .i64 y6)).heap[ga]? = some (.cells (A7 (e7 i n)) 23 (0, 0)) from kp Ba.out)
    have Bb_n := Aside0.mk (show (((((((wy_.setCell ⟨gy, 0, none⟩ (.int .i64 y0)).setCell ⟨gy, 1, none⟩ (.int .i64 y1)).setCell ⟨gy, 2, none⟩ (.int .i64 y2)).setCell ⟨gy, 3, none⟩ (.int .i64 y3)).setCell ⟨gy, 4, none⟩ (.int .i64 y4)).setCell ⟨gy, 5, none⟩ (.int .i64 y5)).setCell ⟨gy, 6, none⟩ (.int .i64 y6)).heap[gb]? = some (.cells (A7 (e7 i 1)) 23 (0, 0)) from kp Bb.out)
    have HB_n := Aside0.mk (show Below w.heap.size w (((((((wy_.setCell ⟨gy, 0, none⟩ (.int .i64 y0)).setCell ⟨gy, 1, none⟩ (.int .i64 y1)).setCell ⟨gy, 2, none⟩ (.int .i64 y2)).setCell ⟨gy, 3, none⟩ (.int .i64 y3)).setCell ⟨gy, 4, none⟩ (.int .i64 y4)).setCell ⟨gy, 5, none⟩ (.int .i64 y5)).setCell ⟨gy, 6, none⟩ (.int .i64 y6)) from bl HB.out)
    clear Ba Bb HB
    generalize (((((((wy_.setCell ⟨gy, 0, none⟩ (.int .i64 y0)).setCell ⟨gy, 1, none⟩ (.int .i64 y1)).setCell ⟨gy, 2, none⟩ (.int .i64 y2)).setCell ⟨gy, 3, none⟩ (.int .i64 y3)).setCell ⟨gy, 4, none⟩ (.int .i64 y4)).setCell ⟨gy, 5, none⟩ (.int .i64 y5)).setCell ⟨gy, 6, none⟩ (.int .i64 y6)) = W6 at Ba_n Bb_n HB_n ⊢
    have Ba := Ba_n
    have Bb := Bb_n
    have HB := HB_n
    clear Ba_n Bb_n HB_n
    obtain ⟨ca0_, ca1_, ca2_, ca3_, ca4_, ca5_, ca6_⟩ := hc7 Ba.out
    obtain ⟨cb0_, cb1_, cb2_, cb3_, cb4_, cb5_, cb6_⟩ := hc7 Bb.out
    go_upto_region 11 with (first | (go_at_call 15; (with_reducible refine (dims_Times.calls (e7 i 1 0) (e7 i 1 1) (e7 i 1 2) (e7 i 1 3) (e7 i 1 4) (e7 i 1 5) (e7 i 1 6) n z0 z1 z2 z3 z4 z5 z6 true _ HZ.out).mono ?_); rintro e w_ ⟨rfl, hb⟩; replace Ba := Aside0.mk (blk_below (kp Ba.out) hb); replace Bb := Aside0.mk (blk_below (kp Bb.out) hb); replace HB := Aside0.mk (below_step (bl HB.out) hb); clear ca0_ ca1_ ca2_ ca3_ ca4_ ca5_ ca6_ cb0_ cb1_ cb2_ cb3_ cb4_ cb5_ cb6_; obtain ⟨ca0_, ca1_, ca2_, ca3_, ca4_, ca5_, ca6_⟩ := hc7 Ba.out; obtain ⟨cb0_, cb1_, cb2_, cb3_, cb4_, cb5_, cb6_⟩ := hc7 Bb.out; clear hb HZ) | ((with_reducible refine gate_dst (N := 14) rfl ?_); refine box_event ?hg (N := 14) ?hd (cs := A7 fun _ => 0) (t := 23) ?hr ?_; (case hd => rfl); (case hg => rfl); (case hr => first | (go_simp; done) | (go_simp; rfl)); intro gz hg_ wz_ hbox hb; have Gz := Aside0.mk (bsz (bl HB.out) hg_ : w.heap.size ≤ gz); have Naz := Aside0.mk (nlt (kp Ba.out) hg_ : ga ≠ gz); have Nza := Aside0.mk (ngt (kp Ba.out) hg_ : gz ≠ ga); have Nbz := Aside0.mk (nlt (kp Bb.out) hg_ : gb ≠ gz); have Nzb := Aside0.mk (ngt (kp Bb.out) hg_ : gz ≠ gb); replace Ba := Aside0.mk (blk_below (kp Ba.out) hb); replace Bb := Aside0.mk (blk_below (kp Bb.out) hb); replace HB := Aside0.mk (below_step (bl HB.out) hb); have Bz := Aside0.mk hbox; clear ca0_ ca1_ ca2_ ca3_ ca4_ ca5_ ca6_ cb0_ cb1_ cb2_ cb3_ cb4_ cb5_ cb6_; obtain ⟨ca0_, ca1_, ca2_, ca3_, ca4_, ca5_, ca6_⟩ := hc7 Ba.out; obtain ⟨cb0_, cb1_, cb2_, cb3_, cb4_, cb5_, cb6_⟩ := hc7 Bb.out; obtain ⟨cz0_, cz1_, cz2_, cz3_, cz4_, cz5_, cz6_⟩ := hc7 Bz.out; obtain ⟨fz0_, fz1_, fz2_, fz3_, fz4_, fz5_, fz6_⟩ := hf7 Bz.out; clear hbox hb hg_))
    clear cz0_ cz1_ cz2_ cz3_ cz4_ cz5_ cz6_ fz0_ fz1_ fz2_ fz3_ fz4_ fz5_ fz6_
    clear ca0_ ca1_ ca2_ ca3_ ca4_ ca5_ ca6_ cb0_ cb1_ cb2_ cb3_ cb4_ cb5_ cb6_
    have Ba_n := Aside0.mk (show (((((((wz_.setCell ⟨gz, 0, none⟩ (.int .i64 z0)).setCell ⟨gz, 1, none⟩ (.int .i64 z1)).setCell ⟨gz, 2, none⟩ (.int .i64 z2)).setCell ⟨gz, 3, none⟩ (.int .i64 z3)).setCell ⟨gz, 4, none⟩ (.int .i64 z4)).setCell ⟨gz, 5, none⟩ (.int .i64 z5)).setCell ⟨gz, 6, none⟩ (.int .i64 z6)).heap[ga]? = some (.cells (A7 (e7 i n)) 23 (0, 0)) from kp Ba.out)
    have Bb_n := Aside0.mk (show (((((((wz_.setCell ⟨gz, 0, none⟩ (.int .i64 z0)).setCell ⟨gz, 1, none⟩ (.int .i64 z1)).setCell ⟨gz, 2, none⟩ (.int .i64 z2)).setCell ⟨gz, 3, none⟩ (.int .i64 z3)).setCell ⟨gz, 4, none⟩ (.int .i64 z4)).setCell ⟨gz, 5, none⟩ (.int .i64 z5)).setCell ⟨gz, 6, none⟩ (.int .i64 z6)).heap[gb]? = some (.cells (A7 (e7 i 1)) 23 (0, 0)) from kp Bb.out)
    have HB_n := Aside0.mk (show Below w.heap.size w (((((((wz_.setCell ⟨gz, 0, none⟩ (.int .i64 z0)).setCell ⟨gz, 1, none⟩ (.int .i64 z1)).setCell ⟨gz, 2, none⟩ (.int .i64 z2)).setCell ⟨gz, 3, none⟩ (.int .i64 z3)).setCell ⟨gz, 4, none⟩ (.int .i64 z4)).setCell ⟨gz, 5, none⟩ (.int .i64 z5)).setCell ⟨gz, 6, none⟩ (.int .i64 z6)) from bl HB.out)
    clear Ba Bb HB
    generalize (((((((wz_.setCell ⟨gz, 0, none⟩ (.int .i64 z0)).setCell ⟨gz, 1, none⟩ (.int .i64 z1)).setCell ⟨gz, 2, none⟩ (.int .i64 z2)).setCell ⟨gz, 3, none⟩ (.int .i64 z3)).setCell ⟨gz, 4, none⟩ (.int .i64 z4)).setCell ⟨gz, 5, none⟩ (.int .i64 z5)).setCell ⟨gz, 6, none⟩ (.int .i64 z6)) = W7 at Ba_n Bb_n HB_n ⊢
    have Ba := Ba_n
    have Bb := Bb_n
    have HB := HB_n
    clear Ba_n Bb_n HB_n
    obtain ⟨ca0_, ca1_, ca2_, ca3_, ca4_, ca5_, ca6_⟩ := hc7 Ba.out
    obtain ⟨cb0_, cb1_, cb2_, cb3_, cb4_, cb5_, cb6_⟩ := hc7 Bb.out
    go_wp2_with (first | (go_at_call 13; (with_reducible refine (dims_Right.calls (e7 i n 0) (e7 i n 1) (e7 i n 2) (e7 i n 3) (e7 i n 4) (e7 i n 5) (e7 i n 6) true _ HR.out).mono ?_); rintro e w_ ⟨rfl, hb⟩; replace Ba := Aside0.mk (blk_below (kp Ba.out) hb); replace Bb := Aside0.mk (blk_below (kp Bb.out) hb); replace HB := Aside0.mk (below_step (bl HB.out) hb); clear ca0_ ca1_ ca2_ ca3_ ca4_ ca5_ ca6_ cb0_ cb1_ cb2_ cb3_ cb4_ cb5_ cb6_; obtain ⟨ca0_, ca1_, ca2_, ca3_, ca4_, ca5_, ca6_⟩ := hc7 Ba.out; obtain ⟨cb0_, cb1_, cb2_, cb3_, cb4_, cb5_, cb6_⟩ := hc7 Bb.out; clear hb HR))
    go_ret
    first | exact ⟨rfl, bl HB.out⟩ | exact ⟨congrArg (fun b => Ending.returned (Value.bool b)) (show (!decide (-99 < n)) = true by rw [decide_eq_false (by omega)]; rfl), bl HB.out⟩ | exact ⟨congrArg (fun b => Ending.returned (Value.bool b)) (show (!decide (n < 99)) = true by rw [decide_eq_false (by omega)]; rfl), bl HB.out⟩
  · have p1 : -99 ≤ n := by omega
    have p2 : ¬ n ≤ 99 := by omega
    have p3 : ¬ n < 99 := by omega
    have p4 : -99 < n := by omega
    clear hc
    have hx := HX0.out; have hy := HY0.out; have hz := HZ0.out; have hA := HA0.out
    rw [show decide ((-99 ≤ n ∧ n ≤ 99) ∧ n < 99) = false from decide_eq_false (by omega)] at hx
    rw [show decide ((-99 ≤ n ∧ n ≤ 99) ∧ n > -99) = false from decide_eq_false (by omega)] at hy
    rw [show decide (-99 ≤ n ∧ n ≤ 99) = false from decide_eq_false (by omega)] at hz hA
    have HX := Aside0.mk hx; have HY := Aside0.mk hy; have HZ := Aside0.mk hz
    have hri : dims_Right.f (e7 i n 0) (e7 i n 1) (e7 i n 2) (e7 i n 3) (e7 i n 4) (e7 i n 5) (e7 i n 6) = some false := congrArg some hA
    have HR := Aside0.mk hri
    have ht : dims_Text.f (e7 i n 0) (e7 i n 1) (e7 i n 2) (e7 i n 3) (e7 i n 4) (e7 i n 5) (e7 i n 6) = some ⟨#[]⟩ := congrArg some (if_neg (by rw [hA]; decide) : textOf (e7 i n) = ⟨#[]⟩)
    have HT := Aside0.mk ht; clear ht
    clear hx hy hz hA hri
    go_upto_region 9 with (first | (go_at_call 16; (with_reducible refine (dims_Add.calls (e7 i n 0) (e7 i n 1) (e7 i n 2) (e7 i n 3) (e7 i n 4) (e7 i n 5) (e7 i n 6) (e7 i 1 0) (e7 i 1 1) (e7 i 1 2) (e7 i 1 3) (e7 i 1 4) (e7 i 1 5) (e7 i 1 6) x0 x1 x2 x3 x4 x5 x6 false _ HX.out).mono ?_); rintro e w_ ⟨rfl, hb⟩; replace Ba := Aside0.mk (blk_below (kp Ba.out) hb); replace Bb := Aside0.mk (blk_below (kp Bb.out) hb); replace HB := Aside0.mk (below_step (bl HB.out) hb); clear ca0_ ca1_ ca2_ ca3_ ca4_ ca5_ ca6_ cb0_ cb1_ cb2_ cb3_ cb4_ cb5_ cb6_; obtain ⟨ca0_, ca1_, ca2_, ca3_, ca4_, ca5_, ca6_⟩ := hc7 Ba.out; obtain ⟨cb0_, cb1_, cb2_, cb3_, cb4_, cb5_, cb6_⟩ := hc7 Bb.out; clear hb HX) | ((with_reducible refine gate_dst (N := 10) rfl ?_); refine box_event ?hg (N := 10) ?hd (cs := A7 fun _ => 0) (t := 23) ?hr ?_; (case hd => rfl); (case hg => rfl); (case hr => first | (go_simp; done) | (go_simp; rfl)); intro gx hg_ wx_ hbox hb; have Gx := Aside0.mk (bsz (bl HB.out) hg_ : w.heap.size ≤ gx); have Nax := Aside0.mk (nlt (kp Ba.out) hg_ : ga ≠ gx); have Nxa := Aside0.mk (ngt (kp Ba.out) hg_ : gx ≠ ga); have Nbx := Aside0.mk (nlt (kp Bb.out) hg_ : gb ≠ gx); have Nxb := Aside0.mk (ngt (kp Bb.out) hg_ : gx ≠ gb); replace Ba := Aside0.mk (blk_below (kp Ba.out) hb); replace Bb := Aside0.mk (blk_below (kp Bb.out) hb); replace HB := Aside0.mk (below_step (bl HB.out) hb); have Bx := Aside0.mk hbox; clear ca0_ ca1_ ca2_ ca3_ ca4_ ca5_ ca6_ cb0_ cb1_ cb2_ cb3_ cb4_ cb5_ cb6_; obtain ⟨ca0_, ca1_, ca2_, ca3_, ca4_, ca5_, ca6_⟩ := hc7 Ba.out; obtain ⟨cb0_, cb1_, cb2_, cb3_, cb4_, cb5_, cb6_⟩ := hc7 Bb.out; obtain ⟨cx0_, cx1_, cx2_, cx3_, cx4_, cx5_, cx6_⟩ := hc7 Bx.out; obtain ⟨fx0_, fx1_, fx2_, fx3_, fx4_, fx5_, fx6_⟩ := hf7 Bx.out; clear hbox hb hg_))
    clear cx0_ cx1_ cx2_ cx3_ cx4_ cx5_ cx6_ fx0_ fx1_ fx2_ fx3_ fx4_ fx5_ fx6_
    clear ca0_ ca1_ ca2_ ca3_ ca4_ ca5_ ca6_ cb0_ cb1_ cb2_ cb3_ cb4_ cb5_ cb6_
    have Ba_n := Aside0.mk (show (((((((wx_.setCell ⟨gx, 0, none⟩ (.int .i64 x0)).setCell ⟨gx, 1, none⟩ (.int .i64 x1)).setCell ⟨gx, 2, none⟩ (.int .i64 x2)).setCell ⟨gx, 3, none⟩ (.int .i64 x3)).setCell ⟨gx, 4, none⟩ (.int .i64 x4)).setCell ⟨gx, 5, none⟩ (.int .i64 x5)).setCell ⟨gx, 6, none⟩ (.int .i64 x6)).heap[ga]? = some (.cells (A7 (e7 i n)) 23 (0, 0)) from kp Ba.out)
    have Bb_n := Aside0.mk (show (((((((wx_.setCell ⟨gx, 0, none⟩ (.int .i64 x0)).setCell ⟨gx, 1, none⟩ (.int .i64 x1)).setCell ⟨gx, 2, none⟩ (.int .i64 x2)).setCell ⟨gx, 3, none⟩ (.int .i64 x3)).setCell ⟨gx, 4, none⟩ (.int .i64 x4)).setCell ⟨gx, 5, none⟩ (.int .i64 x5)).setCell ⟨gx, 6, none⟩ (.int .i64 x6)).heap[gb]? = some (.cells (A7 (e7 i 1)) 23 (0, 0)) from kp Bb.out)
    have HB_n := Aside0.mk (show Below w.heap.size w (((((((wx_.setCell ⟨gx, 0, none⟩ (.int .i64 x0)).setCell ⟨gx, 1, none⟩ (.int .i64 x1)).setCell ⟨gx, 2, none⟩ (.int .i64 x2)).setCell ⟨gx, 3, none⟩ (.int .i64 x3)).setCell ⟨gx, 4, none⟩ (.int .i64 x4)).setCell ⟨gx, 5, none⟩ (.int .i64 x5)).setCell ⟨gx, 6, none⟩ (.int .i64 x6)) from bl HB.out)
    clear Ba Bb HB
    generalize (((((((wx_.setCell ⟨gx, 0, none⟩ (.int .i64 x0)).setCell ⟨gx, 1, none⟩ (.int .i64 x1)).setCell ⟨gx, 2, none⟩ (.int .i64 x2)).setCell ⟨gx, 3, none⟩ (.int .i64 x3)).setCell ⟨gx, 4, none⟩ (.int .i64 x4)).setCell ⟨gx, 5, none⟩ (.int .i64 x5)).setCell ⟨gx, 6, none⟩ (.int .i64 x6)) = W5 at Ba_n Bb_n HB_n ⊢
    have Ba := Ba_n
    have Bb := Bb_n
    have HB := HB_n
    clear Ba_n Bb_n HB_n
    obtain ⟨ca0_, ca1_, ca2_, ca3_, ca4_, ca5_, ca6_⟩ := hc7 Ba.out
    obtain ⟨cb0_, cb1_, cb2_, cb3_, cb4_, cb5_, cb6_⟩ := hc7 Bb.out
    go_upto_region 10 with (first | (go_at_call 19; (with_reducible refine (dims_Sub.calls (e7 i n 0) (e7 i n 1) (e7 i n 2) (e7 i n 3) (e7 i n 4) (e7 i n 5) (e7 i n 6) (e7 i 1 0) (e7 i 1 1) (e7 i 1 2) (e7 i 1 3) (e7 i 1 4) (e7 i 1 5) (e7 i 1 6) y0 y1 y2 y3 y4 y5 y6 false _ HY.out).mono ?_); rintro e w_ ⟨rfl, hb⟩; replace Ba := Aside0.mk (blk_below (kp Ba.out) hb); replace Bb := Aside0.mk (blk_below (kp Bb.out) hb); replace HB := Aside0.mk (below_step (bl HB.out) hb); clear ca0_ ca1_ ca2_ ca3_ ca4_ ca5_ ca6_ cb0_ cb1_ cb2_ cb3_ cb4_ cb5_ cb6_; obtain ⟨ca0_, ca1_, ca2_, ca3_, ca4_, ca5_, ca6_⟩ := hc7 Ba.out; obtain ⟨cb0_, cb1_, cb2_, cb3_, cb4_, cb5_, cb6_⟩ := hc7 Bb.out; clear hb HY) | ((with_reducible refine gate_dst (N := 12) rfl ?_); refine box_event ?hg (N := 12) ?hd (cs := A7 fun _ => 0) (t := 23) ?hr ?_; (case hd => rfl); (case hg => rfl); (case hr => first | (go_simp; done) | (go_simp; rfl)); intro gy hg_ wy_ hbox hb; have Gy := Aside0.mk (bsz (bl HB.out) hg_ : w.heap.size ≤ gy); have Nay := Aside0.mk (nlt (kp Ba.out) hg_ : ga ≠ gy); have Nya := Aside0.mk (ngt (kp Ba.out) hg_ : gy ≠ ga); have Nby := Aside0.mk (nlt (kp Bb.out) hg_ : gb ≠ gy); have Nyb := Aside0.mk (ngt (kp Bb.out) hg_ : gy ≠ gb); replace Ba := Aside0.mk (blk_below (kp Ba.out) hb); replace Bb := Aside0.mk (blk_below (kp Bb.out) hb); replace HB := Aside0.mk (below_step (bl HB.out) hb); have By := Aside0.mk hbox; clear ca0_ ca1_ ca2_ ca3_ ca4_ ca5_ ca6_ cb0_ cb1_ cb2_ cb3_ cb4_ cb5_ cb6_; obtain ⟨ca0_, ca1_, ca2_, ca3_, ca4_, ca5_, ca6_⟩ := hc7 Ba.out; obtain ⟨cb0_, cb1_, cb2_, cb3_, cb4_, cb5_, cb6_⟩ := hc7 Bb.out; obtain ⟨cy0_, cy1_, cy2_, cy3_, cy4_, cy5_, cy6_⟩ := hc7 By.out; obtain ⟨fy0_, fy1_, fy2_, fy3_, fy4_, fy5_, fy6_⟩ := hf7 By.out; clear hbox hb hg_))
    clear cy0_ cy1_ cy2_ cy3_ cy4_ cy5_ cy6_ fy0_ fy1_ fy2_ fy3_ fy4_ fy5_ fy6_
    clear ca0_ ca1_ ca2_ ca3_ ca4_ ca5_ ca6_ cb0_ cb1_ cb2_ cb3_ cb4_ cb5_ cb6_
    have Ba_n := Aside0.mk (show (((((((wy_.setCell ⟨gy, 0, none⟩ (.int .i64 y0)).setCell ⟨gy, 1, none⟩ (.int .i64 y1)).setCell ⟨gy, 2, none⟩ (.int .i64 y2)).setCell ⟨gy, 3, none⟩ (.int .i64 y3)).setCell ⟨gy, 4, none⟩ (.int .i64 y4)).setCell ⟨gy, 5, none⟩ (.int .i64 y5)).setCell ⟨gy, 6, none⟩ (.int .i64 y6)).heap[ga]? = some (.cells (A7 (e7 i n)) 23 (0, 0)) from kp Ba.out)
    have Bb_n := Aside0.mk (show (((((((wy_.setCell ⟨gy, 0, none⟩ (.int .i64 y0)).setCell ⟨gy, 1, none⟩ (.int .i64 y1)).setCell ⟨gy, 2, none⟩ (.int .i64 y2)).setCell ⟨gy, 3, none⟩ (.int .i64 y3)).setCell ⟨gy, 4, none⟩ (.int .i64 y4)).setCell ⟨gy, 5, none⟩ (.int .i64 y5)).setCell ⟨gy, 6, none⟩ (.int .i64 y6)).heap[gb]? = some (.cells (A7 (e7 i 1)) 23 (0, 0)) from kp Bb.out)
    have HB_n := Aside0.mk (show Below w.heap.size w (((((((wy_.setCell ⟨gy, 0, none⟩ (.int .i64 y0)).setCell ⟨gy, 1, none⟩ (.int .i64 y1)).setCell ⟨gy, 2, none⟩ (.int .i64 y2)).setCell ⟨gy, 3, none⟩ (.int .i64 y3)).setCell ⟨gy, 4, none⟩ (.int .i64 y4)).setCell ⟨gy, 5, none⟩ (.int .i64 y5)).setCell ⟨gy, 6, none⟩ (.int .i64 y6)) from bl HB.out)
    clear Ba Bb HB
    generalize (((((((wy_.setCell ⟨gy, 0, none⟩ (.int .i64 y0)).setCell ⟨gy, 1, none⟩ (.int .i64 y1)).setCell ⟨gy, 2, none⟩ (.int .i64 y2)).setCell ⟨gy, 3, none⟩ (.int .i64 y3)).setCell ⟨gy, 4, none⟩ (.int .i64 y4)).setCell ⟨gy, 5, none⟩ (.int .i64 y5)).setCell ⟨gy, 6, none⟩ (.int .i64 y6)) = W6 at Ba_n Bb_n HB_n ⊢
    have Ba := Ba_n
    have Bb := Bb_n
    have HB := HB_n
    clear Ba_n Bb_n HB_n
    obtain ⟨ca0_, ca1_, ca2_, ca3_, ca4_, ca5_, ca6_⟩ := hc7 Ba.out
    obtain ⟨cb0_, cb1_, cb2_, cb3_, cb4_, cb5_, cb6_⟩ := hc7 Bb.out
    go_upto_region 11 with (first | (go_at_call 15; (with_reducible refine (dims_Times.calls (e7 i 1 0) (e7 i 1 1) (e7 i 1 2) (e7 i 1 3) (e7 i 1 4) (e7 i 1 5) (e7 i 1 6) n z0 z1 z2 z3 z4 z5 z6 false _ HZ.out).mono ?_); rintro e w_ ⟨rfl, hb⟩; replace Ba := Aside0.mk (blk_below (kp Ba.out) hb); replace Bb := Aside0.mk (blk_below (kp Bb.out) hb); replace HB := Aside0.mk (below_step (bl HB.out) hb); clear ca0_ ca1_ ca2_ ca3_ ca4_ ca5_ ca6_ cb0_ cb1_ cb2_ cb3_ cb4_ cb5_ cb6_; obtain ⟨ca0_, ca1_, ca2_, ca3_, ca4_, ca5_, ca6_⟩ := hc7 Ba.out; obtain ⟨cb0_, cb1_, cb2_, cb3_, cb4_, cb5_, cb6_⟩ := hc7 Bb.out; clear hb HZ) | ((with_reducible refine gate_dst (N := 14) rfl ?_); refine box_event ?hg (N := 14) ?hd (cs := A7 fun _ => 0) (t := 23) ?hr ?_; (case hd => rfl); (case hg => rfl); (case hr => first | (go_simp; done) | (go_simp; rfl)); intro gz hg_ wz_ hbox hb; have Gz := Aside0.mk (bsz (bl HB.out) hg_ : w.heap.size ≤ gz); have Naz := Aside0.mk (nlt (kp Ba.out) hg_ : ga ≠ gz); have Nza := Aside0.mk (ngt (kp Ba.out) hg_ : gz ≠ ga); have Nbz := Aside0.mk (nlt (kp Bb.out) hg_ : gb ≠ gz); have Nzb := Aside0.mk (ngt (kp Bb.out) hg_ : gz ≠ gb); replace Ba := Aside0.mk (blk_below (kp Ba.out) hb); replace Bb := Aside0.mk (blk_below (kp Bb.out) hb); replace HB := Aside0.mk (below_step (bl HB.out) hb); have Bz := Aside0.mk hbox; clear ca0_ ca1_ ca2_ ca3_ ca4_ ca5_ ca6_ cb0_ cb1_ cb2_ cb3_ cb4_ cb5_ cb6_; obtain ⟨ca0_, ca1_, ca2_, ca3_, ca4_, ca5_, ca6_⟩ := hc7 Ba.out; obtain ⟨cb0_, cb1_, cb2_, cb3_, cb4_, cb5_, cb6_⟩ := hc7 Bb.out; obtain ⟨cz0_, cz1_, cz2_, cz3_, cz4_, cz5_, cz6_⟩ := hc7 Bz.out; obtain ⟨fz0_, fz1_, fz2_, fz3_, fz4_, fz5_, fz6_⟩ := hf7 Bz.out; clear hbox hb hg_))
    clear cz0_ cz1_ cz2_ cz3_ cz4_ cz5_ cz6_ fz0_ fz1_ fz2_ fz3_ fz4_ fz5_ fz6_
    clear ca0_ ca1_ ca2_ ca3_ ca4_ ca5_ ca6_ cb0_ cb1_ cb2_ cb3_ cb4_ cb5_ cb6_
    have Ba_n := Aside0.mk (show (((((((wz_.setCell ⟨gz, 0, none⟩ (.int .i64 z0)).setCell ⟨gz, 1, none⟩ (.int .i64 z1)).setCell ⟨gz, 2, none⟩ (.int .i64 z2)).setCell ⟨gz, 3, none⟩ (.int .i64 z3)).setCell ⟨gz, 4, none⟩ (.int .i64 z4)).setCell ⟨gz, 5, none⟩ (.int .i64 z5)).setCell ⟨gz, 6, none⟩ (.int .i64 z6)).heap[ga]? = some (.cells (A7 (e7 i n)) 23 (0, 0)) from kp Ba.out)
    have Bb_n := Aside0.mk (show (((((((wz_.setCell ⟨gz, 0, none⟩ (.int .i64 z0)).setCell ⟨gz, 1, none⟩ (.int .i64 z1)).setCell ⟨gz, 2, none⟩ (.int .i64 z2)).setCell ⟨gz, 3, none⟩ (.int .i64 z3)).setCell ⟨gz, 4, none⟩ (.int .i64 z4)).setCell ⟨gz, 5, none⟩ (.int .i64 z5)).setCell ⟨gz, 6, none⟩ (.int .i64 z6)).heap[gb]? = some (.cells (A7 (e7 i 1)) 23 (0, 0)) from kp Bb.out)
    have HB_n := Aside0.mk (show Below w.heap.size w (((((((wz_.setCell ⟨gz, 0, none⟩ (.int .i64 z0)).setCell ⟨gz, 1, none⟩ (.int .i64 z1)).setCell ⟨gz, 2, none⟩ (.int .i64 z2)).setCell ⟨gz, 3, none⟩ (.int .i64 z3)).setCell ⟨gz, 4, none⟩ (.int .i64 z4)).setCell ⟨gz, 5, none⟩ (.int .i64 z5)).setCell ⟨gz, 6, none⟩ (.int .i64 z6)) from bl HB.out)
    clear Ba Bb HB
    generalize (((((((wz_.setCell ⟨gz, 0, none⟩ (.int .i64 z0)).setCell ⟨gz, 1, none⟩ (.int .i64 z1)).setCell ⟨gz, 2, none⟩ (.int .i64 z2)).setCell ⟨gz, 3, none⟩ (.int .i64 z3)).setCell ⟨gz, 4, none⟩ (.int .i64 z4)).setCell ⟨gz, 5, none⟩ (.int .i64 z5)).setCell ⟨gz, 6, none⟩ (.int .i64 z6)) = W7 at Ba_n Bb_n HB_n ⊢
    have Ba := Ba_n
    have Bb := Bb_n
    have HB := HB_n
    clear Ba_n Bb_n HB_n
    obtain ⟨ca0_, ca1_, ca2_, ca3_, ca4_, ca5_, ca6_⟩ := hc7 Ba.out
    obtain ⟨cb0_, cb1_, cb2_, cb3_, cb4_, cb5_, cb6_⟩ := hc7 Bb.out
    go_wp2_with (first | (go_at_call 13; (with_reducible refine (dims_Right.calls (e7 i n 0) (e7 i n 1) (e7 i n 2) (e7 i n 3) (e7 i n 4) (e7 i n 5) (e7 i n 6) false _ HR.out).mono ?_); rintro e w_ ⟨rfl, hb⟩; replace Ba := Aside0.mk (blk_below (kp Ba.out) hb); replace Bb := Aside0.mk (blk_below (kp Bb.out) hb); replace HB := Aside0.mk (below_step (bl HB.out) hb); clear ca0_ ca1_ ca2_ ca3_ ca4_ ca5_ ca6_ cb0_ cb1_ cb2_ cb3_ cb4_ cb5_ cb6_; obtain ⟨ca0_, ca1_, ca2_, ca3_, ca4_, ca5_, ca6_⟩ := hc7 Ba.out; obtain ⟨cb0_, cb1_, cb2_, cb3_, cb4_, cb5_, cb6_⟩ := hc7 Bb.out; clear hb HR) | (go_at_call 12; (with_reducible refine (dims_Text.calls (e7 i n 0) (e7 i n 1) (e7 i n 2) (e7 i n 3) (e7 i n 4) (e7 i n 5) (e7 i n 6) _ _ (Glob.use HG.out (by decide) HB.out) HT.out).mono ?_); rintro e w_ ⟨rfl, hb⟩; replace Ba := Aside0.mk (blk_below (kp Ba.out) hb); replace Bb := Aside0.mk (blk_below (kp Bb.out) hb); replace HB := Aside0.mk (below_step (bl HB.out) hb); clear ca0_ ca1_ ca2_ ca3_ ca4_ ca5_ ca6_ cb0_ cb1_ cb2_ cb3_ cb4_ cb5_ cb6_; obtain ⟨ca0_, ca1_, ca2_, ca3_, ca4_, ca5_, ca6_⟩ := hc7 Ba.out; obtain ⟨cb0_, cb1_, cb2_, cb3_, cb4_, cb5_, cb6_⟩ := hc7 Bb.out; clear hb HT))
    go_ret
    first | exact ⟨rfl, bl HB.out⟩ | exact ⟨congrArg (fun b => Ending.returned (Value.bool b)) (show (!decide (-99 < n)) = true by rw [decide_eq_false (by omega)]; rfl), bl HB.out⟩ | exact ⟨congrArg (fun b => Ending.returned (Value.bool b)) (show (!decide (n < 99)) = true by rw [decide_eq_false (by omega)]; rfl), bl HB.out⟩
end Go.Proofs.YtclpbnfcajbmkaaDoor.Di
