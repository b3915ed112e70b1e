/- TrieWords walked. Its conditions: the words as they stand. -/
import Derived.Test.YtgdipibmaaehcaaTrN
namespace Go.Proofs.Ytgdipibmaaehcaa.Tr
open Go Go.RowKit Go.Shelf Go.Proofs.Ytgdipibmaaehcaa Go.Proofs.Ytgdipibmaaehcaa.Sq Go.Proofs.YtgdipibmaaehcaaW.PrintWords Go.Proofs.YtgdipibmaaehcaaW.PrintLast Go.Proofs.YtgdipibmaaehcaaW.PrintMore
attribute [local go_sem] Oper.semAt_some
set_option linter.unusedVariables false
set_option linter.unusedSimpArgs false
/-- The words as the document tells them. -/
abbrev wantOf (xs out : List ByteArray) : List Wt := out.map fun s => (s, find (xs.map strOf) (strOf s))
theorem want_next {xs out : List ByteArray} {pre : List Wt} {y : Wt} (h : pre ++ [y] <+: wantOf xs out) : pre.length < out.length ∧ out.getD pre.length ByteArray.empty = y.1 ∧ y.2 = find (xs.map strOf) (strOf y.1) := by
  have h0 : (wantOf xs out)[pre.length]? = some y := by
    obtain ⟨T, hT⟩ := h
    rw [← hT, List.append_assoc, List.getElem?_append_right (Nat.le_refl _), Nat.sub_self]; rfl
  rw [List.getElem?_map] at h0
  obtain ⟨s, hs, e⟩ := Option.map_eq_some_iff.1 h0
  subst e
  refine ⟨(List.getElem?_eq_some_iff.1 hs).1, ?_, rfl⟩
  rw [List.getD_eq_getElem?_getD, hs]; rfl
theorem rest12 (many : Int) : ∃ k : Nat, k ≤ 11 ∧ (wrap64 (many.tmod 12 + 12)).tmod 12 = (k : Int) := by
  have h1 := Int.tmod_lt_of_pos many (b := 12) (by omega)
  have h2 := Int.lt_tmod_of_pos many (b := 12) (by omega)
  rw [w64s (x := many.tmod 12 + 12) (by omega) (by omega)]
  have h3 := Int.tmod_nonneg (a := many.tmod 12 + 12) 12 (by omega)
  have h4 := Int.tmod_lt_of_pos (many.tmod 12 + 12) (b := 12) (by omega)
  exact ⟨((many.tmod 12 + 12).tmod 12).toNat, by omega, by omega⟩
theorem nodes_short {xs : List ByteArray} (h : ∀ x ∈ xs, x.size ≤ 6) : ∀ x ∈ nodes (xs.map strOf), x.length ≤ 6 := fun x hx => by
  rcases (nodes_mem _ _).1 hx with rfl | ⟨w, hw, k, hk, rfl⟩
  · simp
  · obtain ⟨s, hs, rfl⟩ := List.mem_map.1 hw
    have := h s hs
    rw [List.length_take, strOf_len]; omega
set_option maxHeartbeats 8000000 in
set_option maxRecDepth 100000 in
theorem trieWords_walk {W : World} {A : Option Addr} {n cp : Nat} {ws : List ByteArray} (hr : Kd.C Kd.string W A n ws) (many : Int) :
    Calls Try.prog 7 #[.slice A n cp, .int .i64 many] W fun e w' => e = .returned (.bool true) ∧ Below W.heap.size W w' := by
  have hf28 := func_nil28
  have HR := Aside0.mk hr
  have HB := Aside0.mk (Below.refl W.heap.size W)
  clear hr
  refine (callsIn_wide (n := 19)).1 ?_
  refine callsIn_of_wp_marks Try.func7 rfl trivial ?_ rfl
  refine (wpIn_wide (n := 19)).2 ?_
  simp only [Try.ntmps7, List.size_toArray, List.length_cons, List.length_nil, Nat.reduceAdd, Nat.reduceSub, Array.replicate_succ, Array.replicate_zero, List.push_toArray, List.append_toArray, List.nil_append, List.cons_append]
  go_upto_region 3 with (first
    | ((with_reducible refine gate_dst (N := 4) rfl ?_); refine box_event ?hg (N := 4) ?hd (cs := #[.bool false]) (t := 4) ?hr ?_; (case hd => rfl); (case hg => rfl); (case hr => first | (go_simp; done) | (go_simp; rfl)); intro gr hg_ wr_ hbox hb; have Gr := Aside0.mk (bsz (bl HB.out) hg_ : W.heap.size ≤ gr); replace HB := sb HB hb; have Br := Aside0.mk hbox; clear hbox hb hg_)
    | (go_at_call 9; (with_reducible refine (awake_calls _).mono ?_); rintro e w_ ⟨rfl, hb⟩; replace HB := sb HB hb; replace Br := Aside0.mk (blk_below (kp Br.out) hb); clear hb)
    | (go_at_call 10; (with_reducible refine (few_calls (Kd.C_below HR.out (bl HB.out))).mono ?_); rintro e w_ ⟨v2, rfl, hR2, hb⟩; obtain ⟨xs, hxs⟩ : ∃ xs, xs = fewV ws := ⟨_, rfl⟩; rw [← hxs] at hR2; obtain ⟨A2, c2, rfl⟩ := Kd.R_slice hR2; replace HB := sb HB hb; replace Br := Aside0.mk (blk_below (kp Br.out) hb); have HX := Aside0.mk (And.intro (Kd.R_reads' hR2).2.2 (And.intro (show xs.length ≤ 20 by rw [hxs]; exact fewV_len ws) (show ∀ x ∈ xs, x.size ≤ 6 by rw [hxs]; exact fun x hx => fewV_size hx))); clear hb hR2 hxs))
  obtain ⟨w1, hw1, hb1, hb2⟩ := new_box' w_ (.slice A2 xs.length c2) 22
  rw [hw1]
  obtain ⟨bw, hbw⟩ : ∃ bw, w_.heap.size = bw := ⟨_, rfl⟩
  rw [hbw] at hb1 ⊢
  replace Br := Aside0.mk (blk_below (kp Br.out) hb2)
  replace HB := sb HB hb2
  have HX1 := Aside0.mk (And.intro (Kd.C_below HX.out.1 hb2) (And.intro HX.out.2 hb1))
  have cw := hc1 hb1
  clear hw1 hb1 hb2 hbw HX HR
  go_upto_region 4 with (first
    | (go_at_call 11; (with_reducible refine (build_calls HX1.out.1 (Nat.le_trans HX1.out.2.1.1 (by decide)) (fun x hx => Nat.le_trans (HX1.out.2.1.2 x hx) (by decide))).mono ?_); rintro e wn ⟨gt, rfl, h1, h2, hT, hb⟩; replace HB := sb HB hb; replace Br := Aside0.mk (blk_below (kp Br.out) hb); have HT := Aside0.mk hT; have HX2 := Aside0.mk (And.intro (Kd.C_below HX1.out.1 hb) (And.intro HX1.out.2.1 (blk_below HX1.out.2.2 hb))); clear hb hT h1 h2))
  clear cw
  have cw := hc1 HX2.out.2.2
  clear HX1
  go_upto_region 5 with (first
    | (go_at_call 20; (with_reducible refine (sorted_ref HX2.out.1 (Nat.le_trans HX2.out.2.1.1 (by decide))).mono ?_); rintro e w2 ⟨v8, out, rfl, hO, hri, hmem, hb, hol⟩; obtain ⟨A8, c8, rfl⟩ := Kd.R_slice (OwnS.kd hO); replace HB := sb HB hb; replace Br := Aside0.mk (blk_below (kp Br.out) hb); have HO := Aside0.mk (And.intro (Kd.R_reads' (OwnS.kd hO)).2.2 (And.intro hri (And.intro hmem hol))); have HX3 := Aside0.mk (And.intro (Kd.C_below HX2.out.1 hb) (And.intro HX2.out.2.1 (blk_below HX2.out.2.2 hb))); have HN := Aside0.mk hb; clear hb hO hri hmem hol))
  clear cw
  obtain ⟨w3, hw3, hb1, hb2⟩ := new_box' w2 (.slice A8 out.length c8) 22
  rw [hw3]
  obtain ⟨bq, hbq⟩ : ∃ bq, w2.heap.size = bq := ⟨_, rfl⟩
  rw [hbq] at hb1 ⊢
  have HQ := Aside0.mk (And.intro (blk_below Br.out hb2) (And.intro (blk_below HX3.out.2.2 hb2) (And.intro hb1 (And.intro (Kd.C_below HX3.out.1 hb2) (And.intro (Kd.C_below HO.out.1 hb2) (And.intro (below_step HB.out hb2) (below_step HN.out hb2)))))))
  have HPL := Aside0.mk (And.intro HO.out.2 HX3.out.2.1)
  have HTA := Aside0.mk (tell_all HX3.out.2.1.2 HO.out.2.1 HO.out.2.2.1)
  have H6 := Aside0.mk (nodes_short HX3.out.2.1.2)
  clear hw3 hb1 hb2 hbq HB Br HO HX3 HX2 HN
  go_wp2_with (first
    | (go_at_call 21; (with_reducible refine (words_new gt _).mono ?_); rintro e w4 ⟨bt, rfl, hbt0, hbt, hb⟩; have HB4 := Aside0.mk hb; have HBT := Aside0.mk hbt; clear hb hbt hbt0))
  obtain ⟨w5, hw5, hb1, hb2⟩ := new_box' w4 (.int .i64 0) 3
  rw [hw5]
  obtain ⟨bi, hbi⟩ : ∃ bi, w4.heap.size = bi := ⟨_, rfl⟩
  have HQ4 := Aside0.mk (And.intro (blk_below HQ.out.1 HB4.out) (And.intro (blk_below HQ.out.2.1 HB4.out) (And.intro (blk_below HQ.out.2.2.1 HB4.out) (And.intro (Kd.C_below HQ.out.2.2.2.1 HB4.out) (And.intro (Kd.C_below HQ.out.2.2.2.2.1 HB4.out) (And.intro (below_step HQ.out.2.2.2.2.2.1 HB4.out) (below_step HQ.out.2.2.2.2.2.2 HB4.out)))))))
  have HB5 := Aside0.mk hb2
  have LT := Aside0.mk (And.intro (blk_lt hb1) (Nat.le_of_eq hbi))
  rw [hbi] at hb1 LT ⊢
  have BI := Aside0.mk hb1
  have SZ := Aside0.mk (And.intro (show w4.heap.size ≤ w5.heap.size from hb2.size) (And.intro (show wn.heap.size ≤ w4.heap.size from HQ4.out.2.2.2.2.2.2.size) (show W.heap.size ≤ w4.heap.size from HQ4.out.2.2.2.2.2.1.size)))
  have hstops := words_stops HT.out H6.out 18 (by omega) bt w5 (below_step HQ4.out.2.2.2.2.2.2 hb2) (blk_below HBT.out hb2)
  rw [HTA.out] at hstops
  clear hw5 hb1 hb2 HQ HB4
  refine (wpIn_wide (n := 19)).1 ?_
  refine wpIn_rangeFunc_W (by omega) (gf := 28) (lb := #[.pointer (some ⟨bt, 0, none⟩)]) rfl (enters_of Try.func28 (by kernel_rfl) rfl) hstops (Nat.le_trans SZ.out.2.1 SZ.out.1) (Below.refl _ _) (fun _ => rfl)
    (fun pre W' => Below w4.heap.size w4 W' ∧ W'.heap[bi]? = some (.cells #[.int .i64 (pre.length : Int)] 3 (0, 0)))
    (fun _ _ _ => False)
    ?own (fun cc => fun _ _ _ _ hs _ _ => hs) ⟨HB5.out, BI.out⟩ ?a1 ?assign ?body ?done (fun D cc pre W' _ _ h _ => h.elim)
  case own =>
    rintro pre X Y row ⟨h2, h3⟩ hg hr
    exact ⟨h2.grown hg h2.size (fun k e => Nat.le_trans SZ.out.1 (hr k e)), (hg.block bi (blk_lt h3) (fun e => by have := hr _ e.symm; have := LT.out; omega)).trans h3⟩
  case assign =>
    intro l' y W' K hK
    gi_wp2
    exact hK
  case body =>
    rintro l' pre y W' ⟨h2, h3⟩ hsp
    obtain ⟨hj, hy1, hy2⟩ := want_next hsp
    obtain ⟨ad, rfl, hx⟩ := at_S (Kd.C_below HQ4.out.2.2.2.2.1 h2) pre.length hj
    rw [hy1] at hx
    obtain ⟨ys, yn⟩ := y
    simp only at hy1 hy2 hx
    have HIN := Aside0.mk (And.intro h2 h3)
    have HCW := Aside0.mk (Kd.C_below HQ4.out.2.2.2.1 h2)
    have HXL := Aside0.mk (Nat.le_trans HPL.out.2.1 (by decide : 20 ≤ 140737488351232))
    have HF := Aside0.mk hy2
    have HOL := Aside0.mk (show out.length ≤ 20 from Nat.le_trans HPL.out.1.2.2 HPL.out.2.1)
    have hln : (pre ++ [(ys, yn)]).length = pre.length + 1 := by rw [List.length_append]; rfl
    have HLN := Aside0.mk hln
    obtain ⟨j, hjj⟩ : ∃ j, pre.length = j := ⟨_, rfl⟩
    rw [hjj] at hj hx h3 HLN
    have ci := hc1 h3
    have fi := blk_frozen h3 0
    have cq := hc1 (blk_below HQ4.out.2.2.1 h2)
    have cw := hc1 (blk_below HQ4.out.2.1 h2)
    have q1 := eq_true hj
    have q2 := eq_true (show (j : Int) < (out.length : Int) by omega)
    have q3 := eq_false (show ¬ (out.length : Int) ≤ (j : Int) by omega)
    have q4 := eq_false (show ¬ out.length ≤ j by omega)
    have q5 : decide ((out.length : Int) ≤ (j : Int)) = false := decide_eq_false (by omega)
    have q6 := eq_true (show (0 : Int) ≤ (j : Int) by omega)
    obtain ⟨z, hz⟩ : ∃ z : Int, z = ((j + 1 : Nat) : Int) := ⟨_, rfl⟩
    have hw_ : wrap64 ((j : Int) + 1) = z := by rw [hz]; have := HOL.out; rw [w64s (by omega) (by omega)]; omega
    have hw2_ : IntKind.i64.wrap ((j : Int) + 1) = z := (i64_w _).trans hw_
    have HZ := Aside0.mk hz
    clear h2 h3 hy1 hy2 hln hjj hj hz hsp
    gi_wp2_with (first
      | (gi_at_call 15; refine (CallsIn.inRound l' (callsIn_wide.2 (rfind_calls HCW.out HXL.out ys))).mono ?_; rintro e w_ ⟨rfl, ⟨q, rfl⟩⟩; rw [← HF.out])
      | (refine ⟨trivial, ?_⟩; gi_at_call 15; refine (CallsIn.inRound l' (callsIn_wide.2 (rfind_calls HCW.out HXL.out ys))).mono ?_; rintro e w_ ⟨rfl, ⟨q, rfl⟩⟩; rw [← HF.out]))
    have HE := congrArg (fun n : Nat => (n : Int)) HLN.out
    refine ⟨(KeepGE.of_below (pw_below_drewN (Below.refl _ W') q)).trans (KeepGE.setCell _ _ _ LT.out.1), (pw_below_drewN (Below.refl wn.heap.size W') q).setCell (p := ⟨bi, 0, none⟩) (Nat.le_trans SZ.out.2.1 (Nat.le_of_eq hbi)) _, (pw_below_drewN HIN.out.1 q).setCell (p := ⟨bi, 0, none⟩) (Nat.le_of_eq hbi) _, ?_⟩
    rw [show (((pre ++ [(ys, yn)]).length : Nat) : Int) = z from HE.trans HZ.out.symm]
    exact p1_0 (w := W'.drewN q) HIN.out.2
  case done =>
    rintro D1 ys W1 hD1 hS ⟨h2, h3⟩ hK1
    subst hS
    have hln : (wantOf xs out).length = out.length := by rw [List.length_map]
    rw [hln] at h3
    obtain ⟨k, hk1, hk2⟩ := rest12 many
    have HK := Aside0.mk hk1
    have M1 := Aside0.mk (And.intro h2 (And.intro h3 (And.intro hD1 hK1)))
    have ci := hc1 h3
    have cq := hc1 (blk_below HQ4.out.2.2.1 h2)
    have cw := hc1 (blk_below HQ4.out.2.1 h2)
    clear h2 h3 hK1 hD1 hk1 hstops
    go_upto_region 16 with fail
    obtain ⟨w8, hw8, hb1, hb2⟩ := new_box' W1 (.int .i64 (k : Int)) 3
    rw [hw8]
    obtain ⟨bk, hbk⟩ : ∃ bk, W1.heap.size = bk := ⟨_, rfl⟩
    have M8 := Aside0.mk (And.intro (below_step M1.out.1 hb2) (And.intro (blk_below M1.out.2.1 hb2) (And.intro (blk_below M1.out.2.2.2 hb2) (And.intro hb1 (Nat.le_trans SZ.out.1 (Nat.le_trans M1.out.2.2.1 (Nat.le_of_lt (blk_lt M1.out.2.2.2))))))))
    rw [hbk] at hb1 M8 ⊢
    clear hw8 hb1 hb2 ci cq cw
    go_wp2_with fail
    obtain ⟨w9, hw9, hb1, hb2⟩ := new_box' w8 (.int .i64 0) 3
    rw [hw9]
    obtain ⟨bg, hbg⟩ : ∃ bg, w8.heap.size = bg := ⟨_, rfl⟩
    have M9 := Aside0.mk (And.intro (below_step M8.out.1 hb2) (And.intro (blk_below M8.out.2.1 hb2) (And.intro (blk_below M8.out.2.2.1 hb2) (And.intro (blk_below M8.out.2.2.2.1 hb2) hb1))))
    have S9 := Aside0.mk (And.intro (show bg < w9.heap.size from by rw [← hbg]; exact blk_lt hb1) (And.intro (show bk < bg from by rw [← hbg]; exact blk_lt M8.out.2.2.2.1) (And.intro (show D1 < bg from by rw [← hbg]; exact blk_lt M8.out.2.2.1) (show bi < bg from by rw [← hbg]; exact blk_lt M8.out.2.1))))
    have B89 := Aside0.mk hb2
    rw [hbg] at hb1 M9 ⊢
    have hstops := words_stops HT.out H6.out 18 (by omega) bt w9 (below_step HQ4.out.2.2.2.2.2.2 M9.out.1) (blk_below HBT.out M9.out.1)
    rw [HTA.out] at hstops
    clear hw9 hb1 hb2
    refine (wpIn_wide (n := 19)).1 ?_
    refine wpIn_rangeFunc_W (by omega) (gf := 28) (lb := #[.pointer (some ⟨bt, 0, none⟩)]) rfl (enters_of Try.func28 (by kernel_rfl) rfl) hstops (Nat.le_trans SZ.out.2.1 M9.out.1.size) (Below.refl _ _) (fun _ => rfl)
      (fun pre W' => Below w8.heap.size w8 W' ∧ W'.heap[bg]? = some (.cells #[.int .i64 (pre.length : Int)] 3 (0, 0)) ∧ pre.length ≤ k)
      (fun cc pre W' => cc = .exit 2 ∧ Below w8.heap.size w8 W' ∧ W'.heap[bg]? = some (.cells #[.int .i64 (k : Int)] 3 (0, 0)) ∧ pre.length = k + 1)
      ?own2 ?ownx ⟨B89.out, M9.out.2.2.2.2, Nat.zero_le _⟩ ?a2 ?assign2 ?body2 ?done2 ?stop2
    case own2 =>
      rintro pre X Y row ⟨h2, h3, h4⟩ hg hr
      exact ⟨h2.grown hg h2.size (fun k e => Nat.le_trans B89.out.size (hr k e)), (hg.block bg (blk_lt h3) (fun e => by have := hr _ e.symm; have := S9.out.1; omega)).trans h3, h4⟩
    case ownx =>
      rintro cc pre X Y row ⟨h1, h2, h3, h4⟩ hg hr
      exact ⟨h1, h2.grown hg h2.size (fun k e => Nat.le_trans B89.out.size (hr k e)), (hg.block bg (blk_lt h3) (fun e => by have := hr _ e.symm; have := S9.out.1; omega)).trans h3, h4⟩
    case assign2 =>
      intro l' y W' K hK
      gi_wp2
      exact hK
    case body2 =>
      rintro l' pre y W' ⟨h2, h3, h4⟩ hsp
      obtain ⟨hj, hy1, hy2⟩ := want_next hsp
      obtain ⟨ad, rfl, hx⟩ := at_S (Kd.C_below HQ4.out.2.2.2.2.1 (below_step M8.out.1 h2)) pre.length hj
      rw [hy1] at hx
      obtain ⟨ys, yn⟩ := y
      simp only at hy1 hy2 hx
      have HIN := Aside0.mk (And.intro h2 h3)
      have HOL := Aside0.mk (show out.length ≤ 20 from Nat.le_trans HPL.out.1.2.2 HPL.out.2.1)
      have hln : (pre ++ [(ys, yn)]).length = pre.length + 1 := by rw [List.length_append]; rfl
      have HLN := Aside0.mk hln
      have ck := hc1 (blk_below M8.out.2.2.2.1 h2)
      have cq := hc1 (blk_below HQ4.out.2.2.1 (below_step M8.out.1 h2))
      by_cases hjk : pre.length = k
      · rw [hjk] at hj hx h3 HIN HLN
        have cg := hc1 h3
        clear h2 h3 hy1 hy2 hln hj hsp hjk
        gi_wp2
        refine ⟨KeepGE.refl _ _, rfl, HIN.out.1, HIN.out.2, HLN.out⟩
      · obtain ⟨j, hjj⟩ : ∃ j, pre.length = j := ⟨_, rfl⟩
        rw [hjj] at hj hx h3 h4 HIN HLN hjk
        have cg := hc1 h3
        have fg := blk_frozen h3 0
        have HJK := Aside0.mk (show j + 1 ≤ k by omega)
        have q0 := eq_false hjk
        have q0' := eq_false (show ¬ (j : Int) = (k : Int) by omega)
        have q0b : ((j : Int) == (k : Int)) = false := beq_eq_false_iff_ne.2 (by omega)
        have q1 := eq_true hj
        have q2 := eq_true (show (j : Int) < (out.length : Int) by omega)
        have q3 := eq_false (show ¬ (out.length : Int) ≤ (j : Int) by omega)
        have q4 := eq_false (show ¬ out.length ≤ j by omega)
        have q6 := eq_true (show (0 : Int) ≤ (j : Int) by omega)
        obtain ⟨z, hz⟩ : ∃ z : Int, z = ((j + 1 : Nat) : Int) := ⟨_, rfl⟩
        have hw_ : wrap64 ((j : Int) + 1) = z := by rw [hz]; have := HOL.out; rw [w64s (by omega) (by omega)]; omega
        have hw2_ : IntKind.i64.wrap ((j : Int) + 1) = z := (i64_w _).trans hw_
        have HZ := Aside0.mk hz
        clear h2 h3 hy1 hy2 hln hjj hj hz hsp hjk
        gi_wp2
        have HE := congrArg (fun n : Nat => (n : Int)) HLN.out
        refine ⟨KeepGE.setCell _ _ _ S9.out.1, (Below.refl wn.heap.size W').setCell (p := ⟨bg, 0, none⟩) (Nat.le_trans (Nat.le_trans SZ.out.2.1 M8.out.1.size) (Nat.le_of_eq hbg)) _, HIN.out.1.setCell (p := ⟨bg, 0, none⟩) (Nat.le_of_eq hbg) _, ?_, by rw [HLN.out]; exact HJK.out⟩
        rw [show (((pre ++ [(ys, yn)]).length : Nat) : Int) = z from HE.trans HZ.out.symm]
        exact p1_0 HIN.out.2
    case done2 =>
      rintro D2 ys W9 hD2 hS ⟨h2, h3, h4⟩ hK2
      subst hS
      rw [hln] at h3 h4
      have HF := Aside0.mk (And.intro h2 (And.intro hD2 hK2))
      have ck := hc1 (blk_below M8.out.2.2.2.1 h2)
      have ci := hc1 (blk_below M8.out.2.1 h2)
      have cq := hc1 (blk_below HQ4.out.2.2.1 (below_step M8.out.1 h2))
      have cg := hc1 h3
      have BR := Aside0.mk (blk_below HQ4.out.1 (below_step M8.out.1 h2))
      have BD := Aside0.mk (And.intro (blk_below M8.out.2.2.1 h2) (below_step HQ4.out.2.2.2.2.2.1 (below_step M8.out.1 h2)))
      have cr := hc1 BR.out
      have fr := blk_frozen BR.out 0
      have hmin : min (k : Int) (out.length : Int) = (out.length : Int) := by omega
      have hmin' : min k out.length = out.length := by omega
      clear h2 h3 hD2 hK2
      go_wp2_with fail
      have hR7 : (W9.setCell ⟨gr, 0, none⟩ (.bool true)).heap[gr]? = some (.cells #[.bool true] 4 (0, 0)) := p1_0 BR.out
      have hM7 : Marked W [D2, D1] (W9.setCell ⟨gr, 0, none⟩ (.bool true)) := by
        have hz := BR.out
        have l1 : D1 < bg := S9.out.2.2.1
        have l2 : bg < D2 := Nat.lt_of_lt_of_le S9.out.1 HF.out.2.1
        have l3 := SZ.out.1
        have l4 := SZ.out.2.2
        have l5 := M1.out.2.2.1
        have l6 := M8.out.2.2.2.2
        refine ⟨by simp only [List.nodup_cons, List.mem_singleton, List.not_mem_nil, not_false_iff, List.nodup_nil, and_true]; omega, fun D hD => ?_⟩
        have hc : W.heap.size ≤ D ∧ W9.heap[D]? = some (.deferred (some [])) := by
          rcases List.mem_cons.1 hD with rfl | hD
          · exact ⟨by have := l2; omega, HF.out.2.2⟩
          · obtain rfl := List.mem_singleton.1 hD
            exact ⟨by omega, BD.out.1⟩
        exact ⟨hc.1, (Below.heap_setCell _ _ _ _ (fun e => by have h := hc.2; rw [e, hz] at h; cases h)).trans hc.2⟩
      have hB7 : Below W.heap.size W (W9.setCell ⟨gr, 0, none⟩ (.bool true)) := BD.out.2.setCell (p := ⟨gr, 0, none⟩) Gr.out _
      refine leaves_marks (b := true) (fun w' h1 h2 => ?_) [D2, D1] _ hM7 hR7 hB7
      have h3 := hc1 h1
      refine ⟨.bool true, ?_, rfl, h2⟩
      simp [results, Try.f7, go_sem, h3]
    case stop2 =>
      rintro D2 cc pre W9 hD2 hS ⟨rfl, h2, h3, h4⟩ hK2
      have h5 := hS.length_le
      rw [hln] at h5
      have HF := Aside0.mk (And.intro h2 (And.intro hD2 hK2))
      have ck := hc1 (blk_below M8.out.2.2.2.1 h2)
      have ci := hc1 (blk_below M8.out.2.1 h2)
      have cq := hc1 (blk_below HQ4.out.2.2.1 (below_step M8.out.1 h2))
      have cg := hc1 h3
      have BR := Aside0.mk (blk_below HQ4.out.1 (below_step M8.out.1 h2))
      have BD := Aside0.mk (And.intro (blk_below M8.out.2.2.1 h2) (below_step HQ4.out.2.2.2.2.2.1 (below_step M8.out.1 h2)))
      have cr := hc1 BR.out
      have fr := blk_frozen BR.out 0
      have hmin : min (k : Int) (out.length : Int) = (k : Int) := by omega
      have hmin' : min k out.length = k := by omega
      clear h2 h3 hD2 hK2
      refine (wpIn_wide (n := 19)).2 ?_
      go_wp2_with fail
      have hR7 : (W9.setCell ⟨gr, 0, none⟩ (.bool true)).heap[gr]? = some (.cells #[.bool true] 4 (0, 0)) := p1_0 BR.out
      have hM7 : Marked W [D2, D1] (W9.setCell ⟨gr, 0, none⟩ (.bool true)) := by
        have hz := BR.out
        have l1 : D1 < bg := S9.out.2.2.1
        have l2 : bg < D2 := Nat.lt_of_lt_of_le S9.out.1 HF.out.2.1
        have l3 := SZ.out.1
        have l4 := SZ.out.2.2
        have l5 := M1.out.2.2.1
        have l6 := M8.out.2.2.2.2
        refine ⟨by simp only [List.nodup_cons, List.mem_singleton, List.not_mem_nil, not_false_iff, List.nodup_nil, and_true]; omega, fun D hD => ?_⟩
        have hc : W.heap.size ≤ D ∧ W9.heap[D]? = some (.deferred (some [])) := by
          rcases List.mem_cons.1 hD with rfl | hD
          · exact ⟨by have := l2; omega, HF.out.2.2⟩
          · obtain rfl := List.mem_singleton.1 hD
            exact ⟨by omega, BD.out.1⟩
        exact ⟨hc.1, (Below.heap_setCell _ _ _ _ (fun e => by have h := hc.2; rw [e, hz] at h; cases h)).trans hc.2⟩
      have hB7 : Below W.heap.size W (W9.setCell ⟨gr, 0, none⟩ (.bool true)) := BD.out.2.setCell (p := ⟨gr, 0, none⟩) Gr.out _
      refine leaves_marks (b := true) (fun w' h1 h2 => ?_) [D2, D1] _ hM7 hR7 hB7
      have h3 := hc1 h1
      refine ⟨.bool true, ?_, rfl, h2⟩
      simp [results, Try.f7, go_sem, h3]
end Go.Proofs.Ytgdipibmaaehcaa.Tr
