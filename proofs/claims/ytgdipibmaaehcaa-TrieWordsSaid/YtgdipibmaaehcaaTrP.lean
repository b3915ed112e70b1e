/- The iterator over a node's children, for every loop body, an iterator's own among them. Conditions: those in each theorem. -/
import Derived.Test.YtgdipibmaaehcaaTrG
import Derived.Test.YtgdipibmaaehcaaTrJ
namespace Go.Proofs.Ytgdipibmaaehcaa.Tr
open Go Go.RowKit Go.Shelf Go.Sort Go.Proofs.Ytgdipibmaaehcaa Go.Proofs.Ytgdipibmaaehcaa.Sq Go.Proofs.YtgdipibmaaehcaaW.PrintWords Go.Proofs.YtgdipibmaaehcaaW.PrintLast Go.Proofs.YtgdipibmaaehcaaW.PrintMore
attribute [local go_sem] Oper.semAt_some
set_option linter.unusedVariables false
set_option linter.unusedSimpArgs false
set_option maxRecDepth 100000 in
set_option maxHeartbeats 4000000 in
theorem children_stopsW {gt base : Nat} {P : List Str} {wd : List Int} {wn : World} (hT : TrieAt gt base P wd wn) (i : Nat) (hi : i < P.length) (p : Str) (hp : P[i]? = some p) (n : Nat) (hn : 2 ≤ n) (bt bn : Nat) (w : World) (hbw : Below wn.heap.size wn w)
    (h1 : w.heap[bt]? = some (.cells #[.pointer (some ⟨gt, 0, none⟩)] 25 (0, 0))) (h2 : w.heap[bn]? = some (.cells #[.int .i64 (i : Int)] 3 (0, 0))) :
    SeqW n Try.prog 24 #[.pointer (some ⟨bt, 0, none⟩), .pointer (some ⟨bn, 0, none⟩)] (fun y : KidT P p => kidE y) wn.heap.size (fun ys => ys.map (fun y => y.1.1) = kidsC (kidF P p)) (fun pre => pre.map (fun y => y.1.1) <+: kidsC (kidF P p)) w := by
  intro l J Jx W hW hJ _ hY h0
  have hbW := hbw.trans (hW.mono hbw.size)
  have HT := Aside0.mk (hT.below hbW)
  obtain ⟨⟨v, ms, t1, t2, t3, t4, t5, t6⟩, tg, ts⟩ := hT
  replace t1 := blk_below t1 hbW
  replace t2 := Kd.R_below t2 hbW
  obtain ⟨A, cc, rfl⟩ := Kd.R_slice t2
  obtain ⟨ad, hA, n0, n1⟩ := at_N (Kd.R_reads' t2).2.2 i (by rw [len_zip t3 t4]; omega)
  subst hA
  rw [len_zip t3 t4] at t1
  have c1 := hc1 t1
  obtain ⟨m, hm⟩ : ∃ m, ms[i]? = some m := ⟨_, List.getElem?_eq_getElem (by omega)⟩
  obtain ⟨wi, hw⟩ : ∃ wi, wd[i]? = some wi := ⟨_, List.getElem?_eq_getElem (by omega)⟩
  rw [zip_at hm hw] at n0 n1
  obtain ⟨hbs, D, hD, hR⟩ := t6 i m p hm hp
  have cT := hc1 (blk_below h1 hW)
  have cN := hc1 (blk_below h2 hW)
  have hDW := hD.kept (below_grown hbW) (by simp)
  have hS := fun q : Nat => sorted_calls (W := (W.drewN q).alloc (.cells #[.map (some m)] 50)) W.heap.size (hc1 (heap_alloc_new (W.drewN q) (.cells #[.map (some m)] 50))) (by rw [World.size_alloc]; exact Nat.lt_succ_self _) ((hDW.kept (drawn_by W q) (by simp)).alloc _) ts hR
  have HS := Aside0.mk hS
  have HD := Aside0.mk (And.intro hD hR)
  have HB := Aside0.mk (Below.refl W.heap.size W)
  have HY := Aside0.mk hY
  have HJ := Aside0.mk (And.intro hJ h0)
  have HW := Aside0.mk (And.intro hbW (And.intro hbw.size hW.size))
  have HTr := Aside0.mk (show true = decide (0 ≤ (i : Int) ∧ (i : Int) < (P.length : Int)) by rw [eq_comm, decide_eq_true_iff]; omega)
  have p0 := eq_true (show (0 : Int) ≤ (i : Int) by omega)
  have p1 := eq_true (show (i : Int) < (P.length : Int) by omega)
  have p2 := eq_true hi
  obtain ⟨cs, hcs⟩ : ∃ cs, kidsC (kidF P p) = cs := ⟨_, rfl⟩
  have HC := Aside0.mk hcs
  rw [show (kidsC fun c => pos P (p ++ [byteOf c])) = cs from hcs] at HS
  rw [hcs] at HY ⊢
  clear hcs hS hD hDW hR hbs t1 t2 t6 hm hw hY hJ h0 h1 h2 hbw hW hbW hi tg ts t3 t4 t5 hp
  refine callsIn_of_wp Try.func24 rfl trivial ?_ rfl
  simp only [Try.ntmps24, List.size_toArray, List.length_cons, List.length_nil, Nat.reduceAdd, Nat.reduceSub, Array.replicate_succ, Array.replicate_zero, List.push_toArray, List.append_toArray, List.nil_append, List.cons_append]
  refine (wpIn_wide (n := n)).2 ?_
  go_wp2_with (first
    | (go_at_call 25; (with_reducible refine (is_calls HT.out (i : Int) true HTr.out).mono ?_); rintro e w' ⟨rfl, ⟨q, rfl⟩⟩)
    | fail)
  go_region
  all_goals (go_wp2_with (first
    | (go_at_call 27; (with_reducible refine (keys_calls (some m) _).mono ?_); rintro e w' ⟨rfl, rfl⟩)
    | (go_at_call 26; (with_reducible refine (HS.out _).mono ?_); rintro e w3 ⟨v3, rfl, hrow, hb⟩; obtain ⟨A3, cap3, rfl, hA3⟩ := row_open hrow; replace HB := Aside0.mk (below_step (bl HB.out : Below W.heap.size W ((W.drewN (q + 1)).alloc (.cells #[.map (some m)] 50))) hb); have HA := Aside0.mk (And.intro hA3 hb.size); clear hrow hb hA3)))
  clear c1 n0 n1 cT cN p0 p1 p2 HS HTr HT
  go_loopw [23] (fun v23 wr => ∃ (k : Nat) (pre : List (KidT P p)), v23 = .int .i64 (k : Int) ∧ Aside0 (pre.map (fun y => y.1.1) = cs.take k ∧ k ≤ cs.length ∧ pre.length = k) ∧ Aside0 (Below wn.heap.size wn wr ∧ J pre wr ∧
    (cs = [] ∨ ∃ gb cur, A3 = some ⟨gb, 0, none⟩ ∧ W.heap.size ≤ gb ∧ wr.heap[gb]? = some (.cells cur 5 (0, 0)) ∧ ∀ (j : Nat) (c : Int), cs[j]? = some c → cur[j]? = some (encU c)))) (fun v23 _ => cs.length - (intOf v23).toNat)
  case atStart =>
    refine ⟨0, [], rfl, ⟨rfl, Nat.zero_le _, rfl⟩, ⟨HW.out.1.trans (HB.out.mono (Nat.le_trans HW.out.2.1 HW.out.2.2)), HJ.out.1 _ _ _ none HJ.out.2 (below_grown HB.out) (fun r e => by cases e), ?_⟩⟩
    rcases HA.out.1 with h | ⟨gb, cur, e, h1, h2, h3⟩
    · exact .inl h
    · exact .inr ⟨gb, cur, e, by rw [World.size_alloc] at h1; exact Nat.le_of_succ_le h1, h2, h3⟩
  case round =>
    obtain ⟨k, pre, rfl, HK, HI⟩ := hrel
    by_cases hlt : k < cs.length
    · have hd : decide ((k : Int) < (cs.length : Int)) = true := by simp; omega
      obtain ⟨c, hc⟩ : ∃ c, cs[k]? = some c := ⟨_, List.getElem?_eq_getElem hlt⟩
      obtain ⟨gb, cur, hA, hg1, hg2, hg3⟩ : ∃ gb cur, A3 = some ⟨gb, 0, none⟩ ∧ W.heap.size ≤ gb ∧ wr.heap[gb]? = some (.cells cur 5 (0, 0)) ∧ ∀ (j : Nat) (c : Int), cs[j]? = some c → cur[j]? = some (encU c) := by
        rcases HI.out.2.2 with h | h
        · rw [h] at hlt; exact absurd hlt (Nat.not_lt_zero _)
        · exact h
      subst hA
      have ck : wr.cell? ⟨gb, k, none⟩ = some (.int .u8 c) := (blk_cell hg2 k).trans (hg3 k c hc)
      have hcm : c ∈ kidsC (kidF P p) := by rw [HC.out]; exact List.mem_of_getElem? hc
      rw [kidsC_mem] at hcm
      obtain ⟨hc0, hc1_, hc2⟩ := hcm
      obtain ⟨kk, hkk⟩ : ∃ kk, kidF P p c = some kk := by cases h : kidF P p c with | none => rw [h] at hc2; cases hc2 | some kk => exact ⟨kk, rfl⟩
      have hlk := fun q : Nat => look_run0 ((HD.out.1.kept (below_grown HI.out.1) (by simp)).kept (drawn_by wr q) (by simp)) HD.out.2 c hc0 hc1_
      have hlk0 := look_run0 (HD.out.1.kept (below_grown HI.out.1) (by simp)) HD.out.2 c hc0 hc1_
      have e1 : ((((fun c => pos P (p ++ [byteOf c])) c).getD 0 : Nat) : Int) = (kk : Int) := by rw [show (fun c => pos P (p ++ [byteOf c])) c = some kk from hkk]; rfl
      rw [e1] at hlk0
      simp only [e1] at hlk
      have h1 := eq_true (show k < cs.length from hlt)
      have h2 := eq_true (show (k : Int) < (cs.length : Int) by omega)
      have HX := Aside0.mk (And.intro hg1 (And.intro hg2 (And.intro hg3 (And.intro hc (And.intro hc0 (And.intro hc1_ hkk))))))
      have HLT := Aside0.mk hlt
      have HWR := Aside0.mk (wr_succ (HC.out ▸ kidsC_len (kidF P p)) hlt)
      clear hg1 hg2 hg3 hc hc0 hc1_ hc2 hkk e1 hlt
      go_upto_region 5 with (fail)
      obtain ⟨fn, tmps, assign, body, hy, hR⟩ := HY.out pre ⟨(c, kk), HX.out.2.2.2.2.1, HX.out.2.2.2.2.2.1, HX.out.2.2.2.2.2.2⟩ wr HI.out.2.1 (by
        rw [List.map_append, HK.out.1]
        show List.take k cs ++ [c] <+: cs
        refine ⟨cs.drop (k + 1), ?_⟩
        have h := List.take_append_drop (k + 1) cs
        rw [List.take_add_one, HX.out.2.2.2.1] at h
        exact h)
      dsimp only [kidE] at hy hR
      refine (wpIn_wide (n := n)).1 ?_
      gi_wp2
      refine ⟨fun _ => by omega, ?_⟩
      refine hR.mono ?_
      clear hlk hlk0 hy hR ck
      rintro e W4 (⟨rfl, hJ4, hbe4, hk4⟩ | ⟨rfl, hx4, _⟩)
      · have HJ4 := Aside0.mk (And.intro hJ4 (And.intro hbe4 hk4))
        clear hJ4 hbe4 hk4
        gi_wp2
        go_wp2_with (fail)
        go_roundw
        case rel =>
          refine ⟨k + 1, _, congrArg _ HWR.out, ⟨?_, HLT.out, ?_⟩, ⟨HI.out.1.trans HJ4.out.2.1, HJ4.out.1, .inr ⟨gb, cur, rfl, HX.out.1, HJ4.out.2.2.same _ _ HX.out.1 HX.out.2.1, HX.out.2.2.1⟩⟩⟩
          · rw [List.map_append, HK.out.1]
            show List.take k cs ++ [c] = _
            rw [List.take_add_one, HX.out.2.2.2.1]; rfl
          · rw [List.length_append, HK.out.2.2]; rfl
        case measure => exact meas_succ HLT.out HWR.out
      · gi_wp2
        go_wp2_with (fail)
        refine bodyPost_ret (results_none rfl _ _ _) rfl ?_
        refine ⟨⟨_, rfl⟩, .inr ⟨_, ?_, hx4⟩⟩
        rw [List.map_append, HK.out.1]
        show List.take k cs ++ [c] <+: _
        refine ⟨cs.drop (k + 1), ?_⟩
        have h := List.take_append_drop (k + 1) cs
        rw [List.take_add_one, HX.out.2.2.2.1] at h
        exact h
    · have hd : decide ((k : Int) < (cs.length : Int)) = false := by simp; omega
      go_wp2_with (fail)
      refine bodyPost_end (results_none rfl _ _ _) rfl ?_
      exact ⟨⟨_, rfl⟩, .inl ⟨pre, by rw [HK.out.1, List.take_of_length_le (by omega)], HI.out.2.1⟩⟩
end Go.Proofs.Ytgdipibmaaehcaa.Tr
