/- frac's form: how a loose number is put together. Its conditions: the listed variable 'tens' as it was laid. -/
import Derived.Test.YthfibffgmoblaaaDoorH1
namespace Go.Proofs.YthfibffgmoblaaaDoor
open Go.RowKit Go.Proofs.YthfibffgmoblaaaDoor.PB Go.Proofs.YthfibffgmoblaaaDoorW.PrintWords Go.Proofs.YthfibffgmoblaaaDoorW.PrintLast Go.Proofs.YthfibffgmoblaaaDoorW.PrintMore Flat
attribute [local go_sem] max2_int min2_int max_two min_two max_three min_three max_four min_four   -- for this text's walks alone
set_option linter.unusedVariables false
def frac_loose_form.f (kf : Nat) (up down t0 t1 ten : Int) : Option (Int × Int × Int × Int) :=
  (putN kf 2 (wrap64 (t0 - mn t0 t1)).toNat up true).bind fun a => (putN kf 5 (wrap64 (t1 - mn t0 t1)).toNat a.1 a.2).bind fun b =>
    some (if b.2 = true ∧ -1000 ≤ wrap64 (ten + mn t0 t1) ∧ wrap64 (ten + mn t0 t1) ≤ 1000 then (b.1, down, wrap64 (ten + mn t0 t1), 0) else (0, 0, 0, 10))
theorem putN.mono (p : Int) (k : Nat) : ∀ (d : Nat) (n : Int) (ok : Bool), LeO (putN k p d n ok) (putN (k + 1) p d n ok)
  | 0, _, _ => LeO.refl _
  | d + 1, n, ok => by
    unfold putN
    refine LeO.bind (whole_Mul.mono _ _ _) (fun r => ?_)
    split
    · exact putN.mono p k d r.1 true
    · exact LeO.refl _
theorem frac_loose_form.mono : ∀ a0 a1 a2 a3 a4 k, LeO (frac_loose_form.f k a0 a1 a2 a3 a4) (frac_loose_form.f (k + 1) a0 a1 a2 a3 a4) := by
  intro a0 a1 a2 a3 a4 k
  unfold frac_loose_form.f
  refine LeO.bind (putN.mono _ _ _ _ _) (fun a => ?_)
  refine LeO.bind (putN.mono _ _ _ _ _) (fun b => ?_)
  exact LeO.refl _
theorem wrap_le (x : Int) : wrap64 x ≤ 9223372036854775807 := by unfold wrap64; omega
set_option maxHeartbeats 4000000 in
set_option maxRecDepth 100000 in
theorem frac_loose_form.calls (kf : Nat) (up down t0 t1 ten r1 r2 r3 r4 : Int) (w : World) (hG : Glob [1] w) (h : frac_loose_form.f kf up down t0 t1 ten = some (r1, r2, r3, r4)) :
    Calls Tryd.prog 66 #[.agg #[.int .i64 up, .int .i64 down, .int .i64 t0, .int .i64 t1], .int .i64 ten] w fun e w' => e = .returned (.tuple #[.agg #[.int .i64 r1, .int .i64 r2, .int .i64 r3], .int .i64 r4]) ∧ Below w.heap.size w w' := by
  have hu55 := Tryd.underlying100
  have hu24 := Tryd.underlying29
  have hix0 : ∀ (y0_ y1_ : Value) (W : World), (Instr.index 45 (.agg #[y0_, y1_]) (.int .i64 0)).run Tryd.prog W = .ok y0_ W := by intro y0_ y1_ W; kernel_rfl
  have hix1 : ∀ (y0_ y1_ : Value) (W : World), (Instr.index 45 (.agg #[y0_, y1_]) (.int .i64 1)).run Tryd.prog W = .ok y1_ W := by intro y0_ y1_ W; kernel_rfl
  unfold frac_loose_form.f at h
  obtain ⟨j, hj⟩ : ∃ j, mn t0 t1 = j := ⟨_, rfl⟩
  rw [hj] at h
  obtain ⟨k0, hk0⟩ : ∃ k0, wrap64 (t0 - j) = k0 := ⟨_, rfl⟩
  obtain ⟨k1, hk1⟩ : ∃ k1, wrap64 (t1 - j) = k1 := ⟨_, rfl⟩
  obtain ⟨T, hT⟩ : ∃ T, wrap64 (ten + j) = T := ⟨_, rfl⟩
  have l0 : k0 ≤ 9223372036854775807 := by rw [← hk0]; exact wrap_le _
  have l1 : k1 ≤ 9223372036854775807 := by rw [← hk1]; exact wrap_le _
  rw [hk0, hk1, hT] at h
  obtain ⟨⟨n1, o1⟩, e1, h⟩ := Option.bind_eq_some_iff.mp h
  obtain ⟨⟨n2, o2⟩, e2, h⟩ := Option.bind_eq_some_iff.mp h
  have h := Option.some.inj h
  have E1 := Aside0.mk e1
  have E2 := Aside0.mk e2
  have HR := Aside0.mk h
  have L0 := Aside0.mk l0
  have L1 := Aside0.mk l1
  clear e1 e2 h l0 l1
  have hj' : (if t1 < t0 then t1 else t0) = j := hj
  go_enter Tryd.func66, Tryd.ntmps66
  go_upto_region 4 with (first
    | ((with_reducible refine gate_dst (N := 2) rfl ?_); refine box_event ?hg (N := 2) ?hd (cs := #[.int .i64 up, .int .i64 down, .int .i64 t0, .int .i64 t1]) (t := 100) ?hr ?_; (case hd => rfl); (case hg => rfl); (case hr => first | (go_simp; done) | (go_simp; rfl)); intro gx hg w1 bx hb1; have gex : w.heap.size ≤ gx := (by omega); clear hg)
    | ((with_reducible refine gate_dst (N := 4) rfl ?_); refine box_event ?hg (N := 4) ?hd (cs := #[.int .i64 0, .int .i64 0, .int .i64 0]) (t := 29) ?hr ?_; (case hd => rfl); (case hg => rfl); (case hr => first | (go_simp; done) | (go_simp; rfl)); intro gr hg w2 br hb2; have ltr : gx < gr := (by have := blk_lt bx; omega); have HB2 := below_step hb1 hb2; have bx2 := blk_below bx hb2; clear hg bx hb1 hb2; have z2 : w2.cell? ⟨gx, 2, none⟩ = some (.int .i64 t0) := (blk_cell bx2 2).trans rfl; have z3 : w2.cell? ⟨gx, 3, none⟩ = some (.int .i64 t1) := (blk_cell bx2 3).trans rfl; have z0 : w2.cell? ⟨gx, 0, none⟩ = some (.int .i64 up) := (blk_cell bx2 0).trans rfl)
    | ((with_reducible refine gate_dst (N := 7) rfl ?_); refine box_event ?hg (N := 7) ?hd (cs := #[.int .i64 0]) (t := 2) ?hr ?_; (case hd => rfl); (case hg => rfl); (case hr => first | (go_simp; done) | (go_simp; rfl)); intro gn hg w3 bn hb3; have ltn : gr < gn := (by have := blk_lt br; omega); have HB3 := below_step HB2 hb3; have bx3 := blk_below bx2 hb3; have br3 := blk_below br hb3; clear hg bx2 br HB2 hb3 z0 z2 z3)
    | ((with_reducible refine gate_dst (N := 8) rfl ?_); refine box_event ?hg (N := 8) ?hd (cs := #[.bool false]) (t := 4) ?hr ?_; (case hd => rfl); (case hg => rfl); (case hr => first | (go_simp; done) | (go_simp; rfl)); intro go hg w4 bo hb4; have lto : gn < go := (by have := blk_lt bn; omega); have HB4 := below_step HB3 hb4; have bx4 := blk_below bx3 hb4; have br4 := blk_below br3 hb4; have bn4 := blk_below bn hb4; clear hg bx3 br3 bn HB3 hb4; have q1 : w4.cell? ⟨gn, 0, none⟩ = some (.int .i64 0) := (blk_cell bn4 0).trans rfl; have q2 := blk_frozen bn4 0; have q3 : w4.cell? ⟨go, 0, none⟩ = some (.bool false) := (blk_cell bo 0).trans rfl; have q4 := blk_frozen bo 0; have ne1 : gn ≠ go := (by omega); have ne2 : go ≠ gn := (by omega)))
  have nxn : gx ≠ gn := by omega
  have nxo : gx ≠ go := by omega
  have nrn : gr ≠ gn := by omega
  have nro : gr ≠ go := by omega
  have hxW := blk_far' (blk_far' bx4 (p := ⟨gn, 0, none⟩) nxn (.int .i64 up)) (p := ⟨go, 0, none⟩) nxo (.bool true)
  have hrW := blk_far' (blk_far' br4 (p := ⟨gn, 0, none⟩) nrn (.int .i64 up)) (p := ⟨go, 0, none⟩) nro (.bool true)
  have hnW := blk_far' (blk_put (cs' := #[.int .i64 up]) bn4 0 (.int .i64 up) rfl) (p := ⟨go, 0, none⟩) ne1 (.bool true)
  have hoW := blk_put (cs' := #[.bool true]) (blk_far' bo (p := ⟨gn, 0, none⟩) ne2 (.int .i64 up)) 0 (.bool true) rfl
  have HBW : Below w.heap.size w ((w4.setCell ⟨gn, 0, none⟩ (.int .i64 up)).setCell ⟨go, 0, none⟩ (.bool true)) := below_set (below_set HB4 (by omega)) (by omega)
  clear q1 q2 q3 q4 bx4 br4 bn4 bo HB4
  generalize (w4.setCell ⟨gn, 0, none⟩ (.int .i64 up)).setCell ⟨go, 0, none⟩ (.bool true) = W at hxW hrW hnW hoW HBW ⊢
  obtain ⟨tv1, hv1⟩ := FlatVar.below (hG.v1 rfl) HBW
  have c10 : W.cell? ⟨1, 0, none⟩ = some (.int .i64 2) := (blk_cell hv1 0).trans rfl
  have c11 : W.cell? ⟨1, 1, none⟩ = some (.int .i64 5) := (blk_cell hv1 1).trans rfl
  have x2 : W.cell? ⟨gx, 2, none⟩ = some (.int .i64 t0) := (blk_cell hxW 2).trans rfl
  clear hv1
  have HX := Aside0.mk hxW
  have HRR := Aside0.mk hrW
  have HN := Aside0.mk hnW
  have HO := Aside0.mk hoW
  have HB := Aside0.mk HBW
  clear hxW hrW hnW hoW HBW
  go_wp2
  refine wp_loop_rounds 5 ?_
  rw [rounds_succ]
  go_wp2_with (first | (go_at_call 85; refine (put_calls kf 2 k0 up true n1 o1 gn go _ HN.out HO.out ne2 L0.out E1.out).mono ?_; rintro e w5 ⟨⟨v5, rfl⟩, HF⟩; have HF := Aside0.mk HF; clear c10 c11 x2))
  have HX5 := Aside0.mk (HF.out.hk gx _ nxn nxo HX.out)
  have HR5 := Aside0.mk (HF.out.hk gr _ nrn nro HRR.out)
  have HB5 := Aside0.mk (HF.out.hB w (by omega) (by omega) HB.out)
  clear HX HRR HB HN HO
  rw [rounds_succ]
  have x3 : w5.cell? ⟨gx, 3, none⟩ = some (.int .i64 t1) := (blk_cell HX5.out 3).trans rfl
  go_wp2_with (first | (go_at_call 85; refine (put_calls kf 5 k1 n1 o1 n2 o2 gn go _ HF.out.hn HF.out.ho ne2 L1.out E2.out).mono ?_; rintro e w6 ⟨⟨v6, rfl⟩, HF6⟩; have HF6 := Aside0.mk HF6; clear x3))
  have HX6 := Aside0.mk (HF6.out.hk gx _ nxn nxo HX5.out)
  have HR6 := Aside0.mk (HF6.out.hk gr _ nrn nro HR5.out)
  have HB6 := Aside0.mk (HF6.out.hB w (by omega) (by omega) HB5.out)
  clear HX5 HR5 HB5 HF
  rw [rounds_succ]
  have a1 : w6.cell? ⟨gn, 0, none⟩ = some (.int .i64 n2) := (blk_cell HF6.out.hn 0).trans rfl
  have a2 : w6.cell? ⟨go, 0, none⟩ = some (.bool o2) := (blk_cell HF6.out.ho 0).trans rfl
  have a3 : w6.cell? ⟨gx, 1, none⟩ = some (.int .i64 down) := (blk_cell HX6.out 1).trans rfl
  cases o2 with
  | false =>
    have hr := HR.out
    simp at hr
    obtain ⟨rfl, rfl, rfl, rfl⟩ := hr
    go_wp2_with (first | ((with_reducible refine gate_dst (N := 12) rfl ?_); refine box_event ?hg (N := 12) ?hd (cs := #[.int .i64 0, .int .i64 0, .int .i64 0]) (t := 29) ?hr ?_; (case hd => rfl); (case hg => rfl); (case hr => first | (go_simp; done) | (go_simp; rfl)); intro ga hg w7 ba hb7; have lta : gr < ga := (by have := blk_lt HR6.out; omega); have HR7 := Aside0.mk (blk_below HR6.out hb7); have HB7 := Aside0.mk (below_step HB6.out hb7); have go7 : go ≠ ga := (by have := blk_lt HF6.out.ho; omega); have go8 : ga ≠ go := (by omega); have ao7 : w7.cell? ⟨go, 0, none⟩ = some (.bool false) := (blk_cell (blk_below HF6.out.ho hb7) 0).trans rfl; have BA := Aside0.mk ba; clear hg hb7 a1 a2 a3; have b2 : w7.cell? ⟨ga, 2, none⟩ = some (.int .i64 0) := (blk_cell ba 2).trans rfl; have b1 : w7.cell? ⟨ga, 1, none⟩ = some (.int .i64 0) := (blk_cell ba 1).trans rfl; have b0 : w7.cell? ⟨ga, 0, none⟩ = some (.int .i64 0) := (blk_cell ba 0).trans rfl; have fa0 := blk_frozen ba 0; have fa1 := blk_frozen ba 1; have fa2 := blk_frozen ba 2; have r0 : w7.cell? ⟨gr, 0, none⟩ = some (.int .i64 0) := (blk_cell HR7.out 0).trans rfl; have rr1 : w7.cell? ⟨gr, 1, none⟩ = some (.int .i64 0) := (blk_cell HR7.out 1).trans rfl; have rr2 : w7.cell? ⟨gr, 2, none⟩ = some (.int .i64 0) := (blk_cell HR7.out 2).trans rfl; have fr0 := blk_frozen HR7.out 0; have fr1 := blk_frozen HR7.out 1; have fr2 := blk_frozen HR7.out 2; have na : gr ≠ ga := (by omega); have na2 : ga ≠ gr := (by omega); clear ba))
    exact bodyPost_ret (results_ct rfl _ _ gr 29 #[.int .i64 0, .int .i64 0, .int .i64 0] (0, 0) _ rfl (blk_put (cs' := #[.int .i64 0, .int .i64 0, .int .i64 0]) (blk_put (cs' := #[.int .i64 0, .int .i64 0, .int .i64 0]) (blk_put (cs' := #[.int .i64 0, .int .i64 0, .int .i64 0]) (blk_far' (blk_far' (blk_far' HR7.out (p := ⟨ga, 0, none⟩) na (.int .i64 n2)) (p := ⟨ga, 1, none⟩) na (.int .i64 down)) (p := ⟨ga, 2, none⟩) na (.int .i64 T)) 0 (.int .i64 0) rfl) 1 (.int .i64 0) rfl) 2 (.int .i64 0) rfl) hu24 rfl (by kernel_rfl)) rfl ⟨rfl, (below_set (g := gr) (j := 2) (v := .int .i64 0) (below_set (g := gr) (j := 1) (v := .int .i64 0) (below_set (g := gr) (j := 0) (v := .int .i64 0) (below_set (g := ga) (j := 2) (v := .int .i64 T) (below_set (g := ga) (j := 1) (v := .int .i64 down) (below_set (g := ga) (j := 0) (v := .int .i64 n2) HB7.out (by omega)) (by omega)) (by omega)) (by omega)) (by omega)) (by omega))⟩
  | true =>
    by_cases m1 : -1000 ≤ T
    · have d1 : decide (T < -1000) = false := decide_eq_false (by omega)
      by_cases m2 : T ≤ 1000
      · have d2 : decide (T > 1000) = false := decide_eq_false (by omega)
        have d3 : decide (1000 < T) = false := decide_eq_false (by omega)
        have hr := HR.out
        rw [if_pos ⟨rfl, m1, m2⟩] at hr
        simp at hr
        obtain ⟨rfl, rfl, rfl, rfl⟩ := hr
        go_wp2_with (first | ((with_reducible refine gate_dst (N := 12) rfl ?_); refine box_event ?hg (N := 12) ?hd (cs := #[.int .i64 0, .int .i64 0, .int .i64 0]) (t := 29) ?hr ?_; (case hd => rfl); (case hg => rfl); (case hr => first | (go_simp; done) | (go_simp; rfl)); intro ga hg w7 ba hb7; have lta : gr < ga := (by have := blk_lt HR6.out; omega); have HR7 := Aside0.mk (blk_below HR6.out hb7); have HB7 := Aside0.mk (below_step HB6.out hb7); have go7 : go ≠ ga := (by have := blk_lt HF6.out.ho; omega); have go8 : ga ≠ go := (by omega); have ao7 : w7.cell? ⟨go, 0, none⟩ = some (.bool true) := (blk_cell (blk_below HF6.out.ho hb7) 0).trans rfl; have BA := Aside0.mk ba; clear hg hb7 a1 a2 a3; have b2 : w7.cell? ⟨ga, 2, none⟩ = some (.int .i64 0) := (blk_cell ba 2).trans rfl; have b1 : w7.cell? ⟨ga, 1, none⟩ = some (.int .i64 0) := (blk_cell ba 1).trans rfl; have b0 : w7.cell? ⟨ga, 0, none⟩ = some (.int .i64 0) := (blk_cell ba 0).trans rfl; have fa0 := blk_frozen ba 0; have fa1 := blk_frozen ba 1; have fa2 := blk_frozen ba 2; have r0 : w7.cell? ⟨gr, 0, none⟩ = some (.int .i64 0) := (blk_cell HR7.out 0).trans rfl; have rr1 : w7.cell? ⟨gr, 1, none⟩ = some (.int .i64 0) := (blk_cell HR7.out 1).trans rfl; have rr2 : w7.cell? ⟨gr, 2, none⟩ = some (.int .i64 0) := (blk_cell HR7.out 2).trans rfl; have fr0 := blk_frozen HR7.out 0; have fr1 := blk_frozen HR7.out 1; have fr2 := blk_frozen HR7.out 2; have na : gr ≠ ga := (by omega); have na2 : ga ≠ gr := (by omega); clear ba))
        exact bodyPost_ret (results_ct rfl _ _ gr 29 #[.int .i64 n2, .int .i64 down, .int .i64 T] (0, 0) _ rfl (blk_put (cs' := #[.int .i64 n2, .int .i64 down, .int .i64 T]) (blk_put (cs' := #[.int .i64 n2, .int .i64 down, .int .i64 0]) (blk_put (cs' := #[.int .i64 n2, .int .i64 0, .int .i64 0]) (blk_far' (blk_far' (blk_far' HR7.out (p := ⟨ga, 0, none⟩) na (.int .i64 n2)) (p := ⟨ga, 1, none⟩) na (.int .i64 down)) (p := ⟨ga, 2, none⟩) na (.int .i64 T)) 0 (.int .i64 n2) rfl) 1 (.int .i64 down) rfl) 2 (.int .i64 T) rfl) hu24 rfl (by kernel_rfl)) rfl ⟨rfl, (below_set (g := gr) (j := 2) (v := .int .i64 T) (below_set (g := gr) (j := 1) (v := .int .i64 down) (below_set (g := gr) (j := 0) (v := .int .i64 n2) (below_set (g := ga) (j := 2) (v := .int .i64 T) (below_set (g := ga) (j := 1) (v := .int .i64 down) (below_set (g := ga) (j := 0) (v := .int .i64 n2) HB7.out (by omega)) (by omega)) (by omega)) (by omega)) (by omega)) (by omega))⟩
      · have d2 : decide (T > 1000) = true := decide_eq_true (by omega)
        have d3 : decide (1000 < T) = true := decide_eq_true (by omega)
        have hr := HR.out
        rw [if_neg (fun h => m2 h.2.2)] at hr
        simp at hr
        obtain ⟨rfl, rfl, rfl, rfl⟩ := hr
        go_wp2_with (first | ((with_reducible refine gate_dst (N := 12) rfl ?_); refine box_event ?hg (N := 12) ?hd (cs := #[.int .i64 0, .int .i64 0, .int .i64 0]) (t := 29) ?hr ?_; (case hd => rfl); (case hg => rfl); (case hr => first | (go_simp; done) | (go_simp; rfl)); intro ga hg w7 ba hb7; have lta : gr < ga := (by have := blk_lt HR6.out; omega); have HR7 := Aside0.mk (blk_below HR6.out hb7); have HB7 := Aside0.mk (below_step HB6.out hb7); have go7 : go ≠ ga := (by have := blk_lt HF6.out.ho; omega); have go8 : ga ≠ go := (by omega); have ao7 : w7.cell? ⟨go, 0, none⟩ = some (.bool true) := (blk_cell (blk_below HF6.out.ho hb7) 0).trans rfl; have BA := Aside0.mk ba; clear hg hb7 a1 a2 a3; have b2 : w7.cell? ⟨ga, 2, none⟩ = some (.int .i64 0) := (blk_cell ba 2).trans rfl; have b1 : w7.cell? ⟨ga, 1, none⟩ = some (.int .i64 0) := (blk_cell ba 1).trans rfl; have b0 : w7.cell? ⟨ga, 0, none⟩ = some (.int .i64 0) := (blk_cell ba 0).trans rfl; have fa0 := blk_frozen ba 0; have fa1 := blk_frozen ba 1; have fa2 := blk_frozen ba 2; have r0 : w7.cell? ⟨gr, 0, none⟩ = some (.int .i64 0) := (blk_cell HR7.out 0).trans rfl; have rr1 : w7.cell? ⟨gr, 1, none⟩ = some (.int .i64 0) := (blk_cell HR7.out 1).trans rfl; have rr2 : w7.cell? ⟨gr, 2, none⟩ = some (.int .i64 0) := (blk_cell HR7.out 2).trans rfl; have fr0 := blk_frozen HR7.out 0; have fr1 := blk_frozen HR7.out 1; have fr2 := blk_frozen HR7.out 2; have na : gr ≠ ga := (by omega); have na2 : ga ≠ gr := (by omega); clear ba))
        exact bodyPost_ret (results_ct rfl _ _ gr 29 #[.int .i64 0, .int .i64 0, .int .i64 0] (0, 0) _ rfl (blk_put (cs' := #[.int .i64 0, .int .i64 0, .int .i64 0]) (blk_put (cs' := #[.int .i64 0, .int .i64 0, .int .i64 0]) (blk_put (cs' := #[.int .i64 0, .int .i64 0, .int .i64 0]) (blk_far' (blk_far' (blk_far' HR7.out (p := ⟨ga, 0, none⟩) na (.int .i64 n2)) (p := ⟨ga, 1, none⟩) na (.int .i64 down)) (p := ⟨ga, 2, none⟩) na (.int .i64 T)) 0 (.int .i64 0) rfl) 1 (.int .i64 0) rfl) 2 (.int .i64 0) rfl) hu24 rfl (by kernel_rfl)) rfl ⟨rfl, (below_set (g := gr) (j := 2) (v := .int .i64 0) (below_set (g := gr) (j := 1) (v := .int .i64 0) (below_set (g := gr) (j := 0) (v := .int .i64 0) (below_set (g := ga) (j := 2) (v := .int .i64 T) (below_set (g := ga) (j := 1) (v := .int .i64 down) (below_set (g := ga) (j := 0) (v := .int .i64 n2) HB7.out (by omega)) (by omega)) (by omega)) (by omega)) (by omega)) (by omega))⟩
    · have d1 : decide (T < -1000) = true := decide_eq_true (by omega)
      have hr := HR.out
      rw [if_neg (fun h => m1 h.2.1)] at hr
      simp at hr
      obtain ⟨rfl, rfl, rfl, rfl⟩ := hr
      go_wp2_with (first | ((with_reducible refine gate_dst (N := 12) rfl ?_); refine box_event ?hg (N := 12) ?hd (cs := #[.int .i64 0, .int .i64 0, .int .i64 0]) (t := 29) ?hr ?_; (case hd => rfl); (case hg => rfl); (case hr => first | (go_simp; done) | (go_simp; rfl)); intro ga hg w7 ba hb7; have lta : gr < ga := (by have := blk_lt HR6.out; omega); have HR7 := Aside0.mk (blk_below HR6.out hb7); have HB7 := Aside0.mk (below_step HB6.out hb7); have go7 : go ≠ ga := (by have := blk_lt HF6.out.ho; omega); have go8 : ga ≠ go := (by omega); have ao7 : w7.cell? ⟨go, 0, none⟩ = some (.bool true) := (blk_cell (blk_below HF6.out.ho hb7) 0).trans rfl; have BA := Aside0.mk ba; clear hg hb7 a1 a2 a3; have b2 : w7.cell? ⟨ga, 2, none⟩ = some (.int .i64 0) := (blk_cell ba 2).trans rfl; have b1 : w7.cell? ⟨ga, 1, none⟩ = some (.int .i64 0) := (blk_cell ba 1).trans rfl; have b0 : w7.cell? ⟨ga, 0, none⟩ = some (.int .i64 0) := (blk_cell ba 0).trans rfl; have fa0 := blk_frozen ba 0; have fa1 := blk_frozen ba 1; have fa2 := blk_frozen ba 2; have r0 : w7.cell? ⟨gr, 0, none⟩ = some (.int .i64 0) := (blk_cell HR7.out 0).trans rfl; have rr1 : w7.cell? ⟨gr, 1, none⟩ = some (.int .i64 0) := (blk_cell HR7.out 1).trans rfl; have rr2 : w7.cell? ⟨gr, 2, none⟩ = some (.int .i64 0) := (blk_cell HR7.out 2).trans rfl; have fr0 := blk_frozen HR7.out 0; have fr1 := blk_frozen HR7.out 1; have fr2 := blk_frozen HR7.out 2; have na : gr ≠ ga := (by omega); have na2 : ga ≠ gr := (by omega); clear ba))
      exact bodyPost_ret (results_ct rfl _ _ gr 29 #[.int .i64 0, .int .i64 0, .int .i64 0] (0, 0) _ rfl (blk_put (cs' := #[.int .i64 0, .int .i64 0, .int .i64 0]) (blk_put (cs' := #[.int .i64 0, .int .i64 0, .int .i64 0]) (blk_put (cs' := #[.int .i64 0, .int .i64 0, .int .i64 0]) (blk_far' (blk_far' (blk_far' HR7.out (p := ⟨ga, 0, none⟩) na (.int .i64 n2)) (p := ⟨ga, 1, none⟩) na (.int .i64 down)) (p := ⟨ga, 2, none⟩) na (.int .i64 T)) 0 (.int .i64 0) rfl) 1 (.int .i64 0) rfl) 2 (.int .i64 0) rfl) hu24 rfl (by kernel_rfl)) rfl ⟨rfl, (below_set (g := gr) (j := 2) (v := .int .i64 0) (below_set (g := gr) (j := 1) (v := .int .i64 0) (below_set (g := gr) (j := 0) (v := .int .i64 0) (below_set (g := ga) (j := 2) (v := .int .i64 T) (below_set (g := ga) (j := 1) (v := .int .i64 down) (below_set (g := ga) (j := 0) (v := .int .i64 n2) HB7.out (by omega)) (by omega)) (by omega)) (by omega)) (by omega)) (by omega))⟩
end Go.Proofs.YthfibffgmoblaaaDoor
