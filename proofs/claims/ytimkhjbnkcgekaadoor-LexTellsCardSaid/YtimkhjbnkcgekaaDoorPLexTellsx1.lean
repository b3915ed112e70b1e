/- Printed by a program of this session (wip/tools/prt.py) out of the translation: plain functions, and that the calls come to just them. No conditions beyond those that stand in each theorem. -/
import Derived.Test.YtimkhjbnkcgekaaDoorGlob
import Derived.Test.YtimkhjbnkcgekaaDoorPLexTellsx0
namespace Go.Proofs.YtimkhjbnkcgekaaDoor.PLexTells
open Go.Proofs.YtimkhjbnkcgekaaDoor.Sq Go.RowKit Go.Proofs.YtimkhjbnkcgekaaDoorW.PrintWords Go.Proofs.YtimkhjbnkcgekaaDoorW.PrintLast Go.Proofs.YtimkhjbnkcgekaaDoorW.PrintMore Go.Proofs.YtimkhjbnkcgekaaDoor.PB Go.Proofs.YtimkhjbnkcgekaaDoor.PC Go.Proofs.YtimkhjbnkcgekaaDoor.PQ
attribute [local go_sem] max2_int min2_int max_two min_two max_three min_three max_four min_four   -- for this text's walks alone
set_option linter.unusedVariables false
set_option linter.unusedSimpArgs false

/-! ### drachmlaw08_tells: function 13 -/
def drachmlaw08_tells.f (k : Nat) (a0 : Int) (a1 : ByteArray) : Option (Bool) := (lex_Lex.f a0 a1).bind fun bt101 => ((drachmref08_Lex.f k a0 a1).bind fun bt106 => ((drachmref08_Same.f k bt101.1 bt106.1).bind fun t112 => ((drachmlaw08_each.f a0 a1).bind fun t113 => ((drachmref08_Each.f k a0 a1).bind fun bt116 => ((drachmref08_Same.f k t113 bt116.1).bind fun t120 => (if t112 = true then (if t120 = true then (if bt101.2.1 = bt106.2.1 then (some (bt101.2.2 == bt106.2.2)) else (none)) else (none)) else (none)))))))
theorem drachmlaw08_tells.mono : ∀ a0 a1 k, LeO (drachmlaw08_tells.f k a0 a1) (drachmlaw08_tells.f (k + 1) a0 a1) := by
 intro a0 a1 k
 unfold drachmlaw08_tells.f
 repeat' first
   | (with_reducible exact drachmref08_Each.mono _ _ _)
   | (with_reducible exact drachmref08_Lex.mono _ _ _)
   | (with_reducible exact drachmref08_Same.mono _ _ _)
   | (with_reducible exact LeO.refl _)
   | (with_reducible exact LeO.none _)
   | (with_reducible refine LeO.ite ?_ ?_)
   | (with_reducible refine LeO.bind ?_ (fun _ => ?_))
   | exact drachmref08_Each.mono _ _ _
   | exact drachmref08_Lex.mono _ _ _
   | exact drachmref08_Same.mono _ _ _
   | exact LeO.none _
   | refine LeO.ite ?_ ?_
   | refine LeO.bind ?_ (fun _ => ?_)
set_option maxHeartbeats 8000000 in
set_option maxRecDepth 100000 in
theorem drachmlaw08_tells.calls (k : Nat) (a0 : Int) (a1 : ByteArray) (r : Bool) (w : World) (hG : Glob [0, 2] w) (h : drachmlaw08_tells.f k a0 a1 = some r) :
  Calls Tryd.prog 13 #[.int .i64 a0, .string a1] w fun e w' => e = .returned (.bool r) ∧ Below w.heap.size w w' := by
 have hu48 := Tryd.underlying48
 have hfd51_0 : ∀ (y0_ y1_ : Value) (W : World), (Instr.field 51 (.agg #[y0_, y1_]) 0).run Tryd.prog W = .ok (y0_) W := by intro y0_ y1_ W; first | kernel_rfl | rfl
 have HB := Aside0.mk (Below.refl w.heap.size w)
 have H : ((lex_Lex.f a0 a1).bind fun bt101 => ((drachmref08_Lex.f k a0 a1).bind fun bt106 => ((drachmref08_Same.f k bt101.1 bt106.1).bind fun t112 => ((drachmlaw08_each.f a0 a1).bind fun t113 => ((drachmref08_Each.f k a0 a1).bind fun bt116 => ((drachmref08_Same.f k t113 bt116.1).bind fun t120 => (if t112 = true then (if t120 = true then (if bt101.2.1 = bt106.2.1 then (some (bt101.2.2 == bt106.2.2)) else (none)) else (none)) else (none)))))))) = some r := h
 clear h
 replace H := Option.bind_eq_some_iff.mp H
 obtain ⟨⟨t101, t102, t103⟩, A30, H⟩ := H
 replace H : ((drachmref08_Lex.f k a0 a1).bind fun bt106 => ((drachmref08_Same.f k t101 bt106.1).bind fun t112 => ((drachmlaw08_each.f a0 a1).bind fun t113 => ((drachmref08_Each.f k a0 a1).bind fun bt116 => ((drachmref08_Same.f k t113 bt116.1).bind fun t120 => (if t112 = true then (if t120 = true then (if t102 = bt106.2.1 then (some (t103 == bt106.2.2)) else (none)) else (none)) else (none))))))) = some r := H
 have A3 := Aside0.mk A30
 clear A30
 replace H := Option.bind_eq_some_iff.mp H
 obtain ⟨⟨t106, t109, t110⟩, A40, H⟩ := H
 replace H : ((drachmref08_Same.f k t101 t106).bind fun t112 => ((drachmlaw08_each.f a0 a1).bind fun t113 => ((drachmref08_Each.f k a0 a1).bind fun bt116 => ((drachmref08_Same.f k t113 bt116.1).bind fun t120 => (if t112 = true then (if t120 = true then (if t102 = t109 then (some (t103 == t110)) else (none)) else (none)) else (none)))))) = some r := H
 have A4 := Aside0.mk A40
 clear A40
 replace H := Option.bind_eq_some_iff.mp H
 obtain ⟨t112, A50, H⟩ := H
 replace H : ((drachmlaw08_each.f a0 a1).bind fun t113 => ((drachmref08_Each.f k a0 a1).bind fun bt116 => ((drachmref08_Same.f k t113 bt116.1).bind fun t120 => (if t112 = true then (if t120 = true then (if t102 = t109 then (some (t103 == t110)) else (none)) else (none)) else (none))))) = some r := H
 have A5 := Aside0.mk A50
 clear A50
 replace H := Option.bind_eq_some_iff.mp H
 obtain ⟨t113, A60, H⟩ := H
 replace H : ((drachmref08_Each.f k a0 a1).bind fun bt116 => ((drachmref08_Same.f k t113 bt116.1).bind fun t120 => (if t112 = true then (if t120 = true then (if t102 = t109 then (some (t103 == t110)) else (none)) else (none)) else (none)))) = some r := H
 have A6 := Aside0.mk A60
 clear A60
 replace H := Option.bind_eq_some_iff.mp H
 obtain ⟨⟨t116, t119⟩, A70, H⟩ := H
 replace H : ((drachmref08_Same.f k t113 t116).bind fun t120 => (if t112 = true then (if t120 = true then (if t102 = t109 then (some (t103 == t110)) else (none)) else (none)) else (none))) = some r := H
 have A7 := Aside0.mk A70
 clear A70
 replace H := Option.bind_eq_some_iff.mp H
 obtain ⟨t120, A80, H⟩ := H
 replace H : (if t112 = true then (if t120 = true then (if t102 = t109 then (some (t103 == t110)) else (none)) else (none)) else (none)) = some r := H
 have A8 := Aside0.mk A80
 clear A80
 by_cases c9 : t112 = true
 ·subst c9
  have H1 : (if t120 = true then (if t102 = t109 then (some (t103 == t110)) else (none)) else (none)) = some r := by rw [if_pos rfl] at H; exact H
  clear H
  have H := H1
  clear H1
  by_cases c10 : t120 = true
  ·subst c10
   have H1 : (if t102 = t109 then (some (t103 == t110)) else (none)) = some r := by rw [if_pos rfl] at H; exact H
   clear H
   have H := H1
   clear H1
   by_cases c11 : t102 = t109
   ·rw [if_pos c11] at H
    have c11b0 : (t102 == t109) = true := beq_iff_eq.mpr c11
    have c11b1 : (t102 != t109) = false := bne_eq_false_iff_eq.mpr c11
    clear c11
    obtain rfl := Option.some.inj H
    go_enter Tryd.func13, Tryd.ntmps13
    go_wp2_with (first | (go_at_call 18; (with_reducible refine (lex_Lex.calls a0 a1 t101 t102 t103 _ (Glob.use hG (by decide) (bl HB.out)) A3.out).mono ?_); rintro e w12 ⟨v104, rfl, ho0, hb⟩; have HO105 := Aside0.mk (Kd.R_lower ho0 (below_size (bl HB.out))); replace HB := sb HB hb; (try clear hb); (try clear hb2); (try clear hk); (try clear hi); (try clear ho0)) | (go_at_call 21; (with_reducible refine (drachmref08_Lex.calls k a0 a1 t106 t109 t110 _ A4.out).mono ?_); rintro e w13 ⟨v107, rfl, ho0, hb⟩; have n0_ := Aside0.mk (Kd.R_elder' (by (with_reducible repeat (first | apply Kd.R_alloc | apply Kd.R_drewN | apply Kd.R_drew)); exact HO105.out) (Kd.R_base ho0) hb); have n1_ := Aside0.mk (Kd.R_lower (Kd.R_new' ho0 (Kd.R_lt (by (with_reducible repeat (first | apply Kd.R_alloc | apply Kd.R_drewN | apply Kd.R_drew)); exact HO105.out))) (below_size (bl HB.out))); have n2_ := sb HB hb; clear HO105; clear HB; have HO105 := n0_; have HO108 := n1_; have HB := n2_; clear n0_ n1_ n2_; (try clear hb); (try clear hb2); (try clear hk); (try clear hi); (try clear ho0)) | ((with_reducible refine gate_dst (N := 8) rfl ?_); refine box_event ?hg (N := 8) ?hd (cs := #[.slice none 0 0, .int .i64 0, .int .i64 0]) (t := 48) ?hr ?_; (case hd => rfl); (case hg => rfl); (case hr => first | (go_simp; done) | (go_simp; rfl)); intro gb111 hg w14 hbox hb; have n0_ := Aside0.mk (Kd.R_below (by (with_reducible repeat (first | apply Kd.R_alloc | apply Kd.R_drewN | apply Kd.R_drew)); exact HO105.out) hb); have n1_ := Aside0.mk (Kd.R_below (by (with_reducible repeat (first | apply Kd.R_alloc | apply Kd.R_drewN | apply Kd.R_drew)); exact HO108.out) hb); have n2_ := sb HB hb; have n3_ := Aside0.mk (hbox); have n4_ := Aside0.mk ((by rw [hg]; exact (below_size (bl HB.out)) : w.heap.size ≤ gb111)); have n5_ := Aside0.mk ((by rw [hg]; exact (below_size (bl HB.out)) : w.heap.size ≤ gb111)); clear HO105; clear HO108; clear HB; have HO105 := n0_; have HO108 := n1_; have HB := n2_; have BK111 := n3_; have GW111 := n4_; have GE111 := n5_; clear n0_ n1_ n2_ n3_ n4_ n5_; clear hb hbox hg; obtain ⟨Ao15, co15, eo15⟩ := Kd.R_slice HO108.out; subst eo15; obtain ⟨hcz16_0, hcz16_1, hcz16_2⟩ := hc3 BK111.out; obtain ⟨hfz16_0, hfz16_1, hfz16_2⟩ := hf3 BK111.out; obtain ⟨Ao17, co17, eo17⟩ := Kd.R_slice HO105.out; subst eo17) | ((with_reducible refine gate_callee (f := 16) rfl ?_); refine goesL_ (some 24) rfl rfl Tryd.func16 (by kernel_rfl) rfl #[.slice Ao17 t101.length co17, .slice Ao15 t106.length co15] rfl (by (try simp only [List.map_toArray, List.map_cons, List.map_nil]); first | done | rfl | (simp only [List.length_drop, List.length_take]; rfl)) ?_; (with_reducible refine (drachmref08_Same.calls k _ _ t101 _ _ t106 true _ ?side1 ?side2 ?side3 ?side4 A5.out).mono ?_); (case side1 => refine (Kd.R_reads' (e := 31) (base := w.heap.size) (ok := fun k_ => (True ∧ some k_ ≠ (.slice Ao15 t106.length co15 : Value).ownBlock)) (n := t101.length) (c := co17) ?_).2.2; exact (by (with_reducible repeat (first | apply Kd.R_alloc | apply Kd.R_drewN | apply Kd.R_drew)); exact (Kd.R_mono (Kd.R_far (p := ⟨gb111, 2, none⟩) (Kd.R_far (p := ⟨gb111, 1, none⟩) (Kd.R_far (p := ⟨gb111, 0, none⟩) (Kd.R_types HO105.out BK111.out (by decide)) (fun _ hk => hk.2) (.slice Ao15 t106.length co15)) (fun _ hk => hk.2) (.int .i64 t109)) (fun _ hk => hk.2) (.int .i64 t110)) (fun _ h_ => h_.1)))); (case side2 => exact (Kd.R_reads' HO105.out).2.1); (case side3 => refine (Kd.R_reads' (e := 31) (base := w.heap.size) (ok := fun k_ => (True ∧ some k_ ≠ (.slice Ao17 t101.length co17 : Value).ownBlock)) (n := t106.length) (c := co15) ?_).2.2; exact (by (with_reducible repeat (first | apply Kd.R_alloc | apply Kd.R_drewN | apply Kd.R_drew)); exact (Kd.R_mono (Kd.R_far (p := ⟨gb111, 2, none⟩) (Kd.R_far (p := ⟨gb111, 1, none⟩) (Kd.R_far (p := ⟨gb111, 0, none⟩) (Kd.R_types HO108.out BK111.out (by decide)) (fun _ hk => hk.2) (.slice Ao15 t106.length co15)) (fun _ hk => hk.2) (.int .i64 t109)) (fun _ hk => hk.2) (.int .i64 t110)) (fun _ h_ => h_.1)))); (case side4 => exact (Kd.R_reads' HO108.out).2.1); rintro e w' ⟨rfl, ⟨nd, rfl⟩⟩; refine ⟨_, rfl, ?_⟩) | (go_at_call 14; (with_reducible refine (drachmlaw08_each.calls a0 a1 t113 _ (Glob.use hG (by decide) (bl HB.out)) A6.out).mono ?_); rintro e w18 ⟨v114, rfl, ho0, hb⟩; have n0_ := Aside0.mk (Kd.R_elder' (by (with_reducible repeat (first | apply Kd.R_alloc | apply Kd.R_drewN | apply Kd.R_drew)); exact (Kd.R_mono (Kd.R_far (p := ⟨gb111, 2, none⟩) (Kd.R_far (p := ⟨gb111, 1, none⟩) (Kd.R_far (p := ⟨gb111, 0, none⟩) (Kd.R_types HO105.out BK111.out (by decide)) (fun _ hk => hk.2) (.slice Ao15 t106.length co15)) (fun _ hk => hk.2) (.int .i64 t109)) (fun _ hk => hk.2) (.int .i64 t110)) (fun _ h_ => h_.1))) (Kd.R_base ho0) hb); have n1_ := Aside0.mk (Kd.R_elder' (by (with_reducible repeat (first | apply Kd.R_alloc | apply Kd.R_drewN | apply Kd.R_drew)); exact (Kd.R_mono (Kd.R_far (p := ⟨gb111, 2, none⟩) (Kd.R_far (p := ⟨gb111, 1, none⟩) (Kd.R_far (p := ⟨gb111, 0, none⟩) (Kd.R_types HO108.out BK111.out (by decide)) (fun _ hk => hk.2) (.slice Ao15 t106.length co15)) (fun _ hk => hk.2) (.int .i64 t109)) (fun _ hk => hk.2) (.int .i64 t110)) (fun _ h_ => h_.1))) (Kd.R_base ho0) hb); have n2_ := Aside0.mk (Kd.R_lower (Kd.R_new' (Kd.R_new' ho0 (Kd.R_lt (by (with_reducible repeat (first | apply Kd.R_alloc | apply Kd.R_drewN | apply Kd.R_drew)); exact (Kd.R_mono (Kd.R_far (p := ⟨gb111, 2, none⟩) (Kd.R_far (p := ⟨gb111, 1, none⟩) (Kd.R_far (p := ⟨gb111, 0, none⟩) (Kd.R_types HO105.out BK111.out (by decide)) (fun _ hk => hk.2) (.slice Ao15 t106.length co15)) (fun _ hk => hk.2) (.int .i64 t109)) (fun _ hk => hk.2) (.int .i64 t110)) (fun _ h_ => h_.1))))) (Kd.R_lt (by (with_reducible repeat (first | apply Kd.R_alloc | apply Kd.R_drewN | apply Kd.R_drew)); exact (Kd.R_mono (Kd.R_far (p := ⟨gb111, 2, none⟩) (Kd.R_far (p := ⟨gb111, 1, none⟩) (Kd.R_far (p := ⟨gb111, 0, none⟩) (Kd.R_types HO108.out BK111.out (by decide)) (fun _ hk => hk.2) (.slice Ao15 t106.length co15)) (fun _ hk => hk.2) (.int .i64 t109)) (fun _ hk => hk.2) (.int .i64 t110)) (fun _ h_ => h_.1))))) (below_size (bl HB.out))); have n3_ := Aside0.mk (blk_below (kp (p3_2 (kp (p3_1 (kp (p3_0 (kp BK111.out))))))) hb); have n4_ := sb HB hb; clear HO105; clear HO108; clear BK111; clear HB; have HO105 := n0_; have HO108 := n1_; have HO115 := n2_; have BK111 := n3_; have HB := n4_; clear n0_ n1_ n2_ n3_ n4_; (try clear hb); (try clear hb2); (try clear hk); (try clear hi); (try clear ho0)) | (go_at_call 22; (with_reducible refine (drachmref08_Each.calls k a0 a1 t116 t119 _ A7.out).mono ?_); rintro e w19 ⟨v117, rfl, ho0, hb⟩; have n0_ := Aside0.mk (Kd.R_elder' (by (with_reducible repeat (first | apply Kd.R_alloc | apply Kd.R_drewN | apply Kd.R_drew)); exact HO105.out) (Kd.R_base ho0) hb); have n1_ := Aside0.mk (Kd.R_elder' (by (with_reducible repeat (first | apply Kd.R_alloc | apply Kd.R_drewN | apply Kd.R_drew)); exact HO108.out) (Kd.R_base ho0) hb); have n2_ := Aside0.mk (Kd.R_elder' (by (with_reducible repeat (first | apply Kd.R_alloc | apply Kd.R_drewN | apply Kd.R_drew)); exact HO115.out) (Kd.R_base ho0) hb); have n3_ := Aside0.mk (Kd.R_lower (Kd.R_new' (Kd.R_new' (Kd.R_new' ho0 (Kd.R_lt (by (with_reducible repeat (first | apply Kd.R_alloc | apply Kd.R_drewN | apply Kd.R_drew)); exact HO105.out))) (Kd.R_lt (by (with_reducible repeat (first | apply Kd.R_alloc | apply Kd.R_drewN | apply Kd.R_drew)); exact HO108.out))) (Kd.R_lt (by (with_reducible repeat (first | apply Kd.R_alloc | apply Kd.R_drewN | apply Kd.R_drew)); exact HO115.out))) (below_size (bl HB.out))); have n4_ := kb BK111 hb; have n5_ := sb HB hb; clear HO105; clear HO108; clear HO115; clear BK111; clear HB; have HO105 := n0_; have HO108 := n1_; have HO115 := n2_; have HO118 := n3_; have BK111 := n4_; have HB := n5_; clear n0_ n1_ n2_ n3_ n4_ n5_; (try clear hb); (try clear hb2); (try clear hk); (try clear hi); (try clear ho0); obtain ⟨Ao20, co20, eo20⟩ := Kd.R_slice HO115.out; subst eo20; obtain ⟨Ao21, co21, eo21⟩ := Kd.R_slice HO118.out; subst eo21) | ((with_reducible refine gate_callee (f := 16) rfl ?_); refine goesL_ (some 32) rfl rfl Tryd.func16 (by kernel_rfl) rfl #[.slice Ao20 t113.length co20, .slice Ao21 t116.length co21] rfl (by (try simp only [List.map_toArray, List.map_cons, List.map_nil]); first | done | rfl | (simp only [List.length_drop, List.length_take]; rfl)) ?_; (with_reducible refine (drachmref08_Same.calls k _ _ t113 _ _ t116 true _ ?side1 ?side2 ?side3 ?side4 A8.out).mono ?_); (case side1 => repeat (first | exact (Kd.R_reads' HO115.out).2.2 | (with_reducible refine Kd.C_alloc ?_ _) | (with_reducible refine Kd.C_drewN ?_ _) | (with_reducible refine Kd.C_drew ?_))); (case side2 => exact (Kd.R_reads' HO115.out).2.1); (case side3 => repeat (first | exact (Kd.R_reads' HO118.out).2.2 | (with_reducible refine Kd.C_alloc ?_ _) | (with_reducible refine Kd.C_drewN ?_ _) | (with_reducible refine Kd.C_drew ?_))); (case side4 => exact (Kd.R_reads' HO118.out).2.1); rintro e w' ⟨rfl, ⟨nd, rfl⟩⟩; refine ⟨_, rfl, ?_⟩; obtain ⟨hcz22_0, hcz22_1, hcz22_2⟩ := hc3 BK111.out; obtain ⟨hfz22_0, hfz22_1, hfz22_2⟩ := hf3 BK111.out))
    go_ret
    exact ⟨by first | rfl | (simp [errW_none, errW_some] <;> rfl) | (simp [*, errW_none, errW_some] <;> rfl), bl HB.out⟩
   ·rw [if_neg c11] at H
    exact absurd H (by simp)
  ·replace c10 := Bool.eq_false_iff.mpr c10
   subst c10
   have H1 : (none) = some r := by rw [if_neg (show ¬ (false = true) by decide)] at H; exact H
   clear H
   have H := H1
   clear H1
   exact absurd H (by simp)
 ·replace c9 := Bool.eq_false_iff.mpr c9
  subst c9
  have H1 : (none) = some r := by rw [if_neg (show ¬ (false = true) by decide)] at H; exact H
  clear H
  have H := H1
  clear H1
  exact absurd H (by simp)

/-! ### drachmlaw08_LexTells: function 3 -/
def drachmlaw08_LexTells.l0 : Nat → Int → Int → Bool → ByteArray → ByteArray → Int → Option (Bool)
 | 0, _, _, _, _, _, _ => none
 | k + 1, x0, x2, x7, x8, x9, x10 => (drachmlaw08_rest.f x2 6).bind fun t125 => (if x10 ≤ t125 then (if x9.size + x8.size ≤ 9223372036854775807 then (drachmlaw08_LexTells.l0 k x0 x2 x7 x8 (x9 ++ x8) (wrap64 (x10 + 1))) else (none)) else (if x7 = true then ((drachmlaw08_tells.f k x0 x8).bind fun t126 => (if t126 = true then ((drachmlaw08_rest.f x0 8).bind fun t127 => ((drachmlaw08_tells.f k (wrap64 (t127 - 1)) x8).bind fun t128 => (if t128 = true then ((drachmlaw08_tells.f k (wrap64 (t127 - 1)) x9).bind fun t129 => (some t129)) else (none)))) else (none))) else (none)))
def drachmlaw08_LexTells.f (k : Nat) (a0 : Int) (a1_0 : ByteArray) (a1_1 : ByteArray) (a2 : Int) : Option (Bool) := (drachmlaw08_awake.f).bind fun t122 => ((drachmlaw08_short.f a1_0 60).bind fun t123 => ((drachmlaw08_short.f a1_1 60).bind fun t124 => (if t123.size + t124.size ≤ 9223372036854775807 then (drachmlaw08_LexTells.l0 k a0 a2 t122 (t123 ++ t124) (⟨#[]⟩ : ByteArray) 0) else (none))))
theorem drachmlaw08_LexTells.mono_l : ∀ k, (∀ y0 y1 y2 y3 y4 y5, LeO (drachmlaw08_LexTells.l0 k y0 y1 y2 y3 y4 y5) (drachmlaw08_LexTells.l0 (k + 1) y0 y1 y2 y3 y4 y5))
 | 0 => fun _ _ _ _ _ _ r h => by simp [drachmlaw08_LexTells.l0] at h
 | k + 1 => by
  have ih0 := drachmlaw08_LexTells.mono_l k
  ·intro y0 y1 y2 y3 y4 y5
   unfold drachmlaw08_LexTells.l0
   repeat' first
   | (with_reducible exact ih0 _ _ _ _ _ _)
   | (with_reducible exact drachmlaw08_tells.mono _ _ _)
   | (with_reducible exact LeO.refl _)
   | (with_reducible exact LeO.none _)
   | (with_reducible refine LeO.ite ?_ ?_)
   | (with_reducible refine LeO.bind ?_ (fun _ => ?_))
   | exact ih0 _ _ _ _ _ _
   | exact drachmlaw08_tells.mono _ _ _
   | exact LeO.none _
   | refine LeO.ite ?_ ?_
   | refine LeO.bind ?_ (fun _ => ?_)
theorem drachmlaw08_LexTells.mono : ∀ a0 a1 a2 a3 k, LeO (drachmlaw08_LexTells.f k a0 a1 a2 a3) (drachmlaw08_LexTells.f (k + 1) a0 a1 a2 a3) := by
 intro a0 a1 a2 a3 k
 have ih0 := drachmlaw08_LexTells.mono_l k
 unfold drachmlaw08_LexTells.f
 repeat' first
   | (with_reducible exact ih0 _ _ _ _ _ _)
   | (with_reducible exact drachmlaw08_tells.mono _ _ _)
   | (with_reducible exact LeO.refl _)
   | (with_reducible exact LeO.none _)
   | (with_reducible refine LeO.ite ?_ ?_)
   | (with_reducible refine LeO.bind ?_ (fun _ => ?_))
   | exact ih0 _ _ _ _ _ _
   | exact drachmlaw08_tells.mono _ _ _
   | exact LeO.none _
   | refine LeO.ite ?_ ?_
   | refine LeO.bind ?_ (fun _ => ?_)
set_option maxHeartbeats 8000000 in
set_option maxRecDepth 100000 in
theorem drachmlaw08_LexTells.calls (k : Nat) (a0 : Int) (a1_0 : ByteArray) (a1_1 : ByteArray) (a2 : Int) (r : Bool) (w : World) (hG : Glob [0, 2] w) (h : drachmlaw08_LexTells.f k a0 a1_0 a1_1 a2 = some r) :
  Calls Tryd.prog 3 #[.int .i64 a0, .agg #[.string a1_0, .string a1_1], .int .i64 a2] w fun e w' => e = .returned (.bool r) ∧ Below w.heap.size w w' := by
 have hu22 := Tryd.underlying22
 have HB := Aside0.mk (Below.refl w.heap.size w)
 have H : ((drachmlaw08_awake.f).bind fun t122 => ((drachmlaw08_short.f a1_0 60).bind fun t123 => ((drachmlaw08_short.f a1_1 60).bind fun t124 => (if t123.size + t124.size ≤ 9223372036854775807 then (drachmlaw08_LexTells.l0 k a0 a2 t122 (t123 ++ t124) (⟨#[]⟩ : ByteArray) 0) else (none))))) = some r := h
 clear h
 replace H := Option.bind_eq_some_iff.mp H
 obtain ⟨t122, A40, H⟩ := H
 replace H : ((drachmlaw08_short.f a1_0 60).bind fun t123 => ((drachmlaw08_short.f a1_1 60).bind fun t124 => (if t123.size + t124.size ≤ 9223372036854775807 then (drachmlaw08_LexTells.l0 k a0 a2 t122 (t123 ++ t124) (⟨#[]⟩ : ByteArray) 0) else (none)))) = some r := H
 have A4 := Aside0.mk A40
 clear A40
 replace H := Option.bind_eq_some_iff.mp H
 obtain ⟨t123, A50, H⟩ := H
 replace H : ((drachmlaw08_short.f a1_1 60).bind fun t124 => (if t123.size + t124.size ≤ 9223372036854775807 then (drachmlaw08_LexTells.l0 k a0 a2 t122 (t123 ++ t124) (⟨#[]⟩ : ByteArray) 0) else (none))) = some r := H
 have A5 := Aside0.mk A50
 clear A50
 replace H := Option.bind_eq_some_iff.mp H
 obtain ⟨t124, A60, H⟩ := H
 replace H : (if t123.size + t124.size ≤ 9223372036854775807 then (drachmlaw08_LexTells.l0 k a0 a2 t122 (t123 ++ t124) (⟨#[]⟩ : ByteArray) 0) else (none)) = some r := H
 have A6 := Aside0.mk A60
 clear A60
 by_cases c7 : t123.size + t124.size ≤ 9223372036854775807
 ·rw [if_pos c7] at H
  have c7b0 := eq_true c7
  have c7b1 : decide (t123.size + t124.size ≤ 9223372036854775807) = true := decide_eq_true c7
  try have c7b2 : (9223372036854775807 < t123.size + t124.size) = False := eq_false (Nat.not_lt.2 c7)
  have H' := Aside0.mk H
  clear H
  go_enter Tryd.func3, Tryd.ntmps3
  go_wp2_with (first | ((with_reducible refine gate_dst (N := 4) rfl ?_); refine box_event ?hg (N := 4) ?hd (cs := #[.string a1_0, .string a1_1]) (t := 22) ?hr ?_; (case hd => rfl); (case hg => rfl); (case hr => first | (go_simp; done) | (go_simp; rfl)); intro gb121 hg w8 hbox hb; have n0_ := sb HB hb; have n1_ := Aside0.mk (hbox); have n2_ := Aside0.mk ((by rw [hg]; exact (below_size (bl HB.out)) : w.heap.size ≤ gb121)); have n3_ := Aside0.mk ((by rw [hg]; exact (below_size (bl HB.out)) : w.heap.size ≤ gb121)); clear HB; have HB := n0_; have BK121 := n1_; have GW121 := n2_; have GE121 := n3_; clear n0_ n1_ n2_ n3_; clear hb hbox hg) | (go_at_call 10; (with_reducible refine (drachmlaw08_awake.calls  t122 _ (Glob.use hG (by decide) (bl HB.out)) A4.out).mono ?_); rintro e w9 ⟨rfl, hb⟩; replace BK121 := kb BK121 hb; replace HB := sb HB hb; (try clear hb); (try clear hb2); (try clear hk); (try clear hi); obtain ⟨hcz10_0, hcz10_1⟩ := hc2 BK121.out; obtain ⟨hfz10_0, hfz10_1⟩ := hf2 BK121.out) | (go_at_call 11; (with_reducible refine (drachmlaw08_short.calls a1_0 60 t123 _ A5.out).mono ?_); rintro e w' ⟨rfl, ⟨nd, rfl⟩⟩; (try first | exact ⟨rfl, _, World.drewN_drewN _ _ _⟩ | exact ⟨rfl, _, Eq.trans (World.drewN_drewN _ _ _) (congrArg (World.drewN _) (Nat.add_assoc _ _ _))⟩)) | (go_at_call 11; (with_reducible refine (drachmlaw08_short.calls a1_1 60 t124 _ A6.out).mono ?_); rintro e w' ⟨rfl, ⟨nd, rfl⟩⟩; (try first | exact ⟨rfl, _, World.drewN_drewN _ _ _⟩ | exact ⟨rfl, _, Eq.trans (World.drewN_drewN _ _ _) (congrArg (World.drewN _) (Nat.add_assoc _ _ _))⟩)))
  repeat (go_quiet (first | ((with_reducible refine gate_dst (N := 4) rfl ?_); refine box_event ?hg (N := 4) ?hd (cs := #[.string a1_0, .string a1_1]) (t := 22) ?hr ?_; (case hd => rfl); (case hg => rfl); (case hr => first | (go_simp; done) | (go_simp; rfl)); intro gb121 hg w8 hbox hb; have n0_ := sb HB hb; have n1_ := Aside0.mk (hbox); have n2_ := Aside0.mk ((by rw [hg]; exact (below_size (bl HB.out)) : w.heap.size ≤ gb121)); have n3_ := Aside0.mk ((by rw [hg]; exact (below_size (bl HB.out)) : w.heap.size ≤ gb121)); clear HB; have HB := n0_; have BK121 := n1_; have GW121 := n2_; have GE121 := n3_; clear n0_ n1_ n2_ n3_; clear hb hbox hg) | (go_at_call 10; (with_reducible refine (drachmlaw08_awake.calls  t122 _ (Glob.use hG (by decide) (bl HB.out)) A4.out).mono ?_); rintro e w9 ⟨rfl, hb⟩; replace BK121 := kb BK121 hb; replace HB := sb HB hb; (try clear hb); (try clear hb2); (try clear hk); (try clear hi); obtain ⟨hcz10_0, hcz10_1⟩ := hc2 BK121.out; obtain ⟨hfz10_0, hfz10_1⟩ := hf2 BK121.out) | (go_at_call 11; (with_reducible refine (drachmlaw08_short.calls a1_0 60 t123 _ A5.out).mono ?_); rintro e w' ⟨rfl, ⟨nd, rfl⟩⟩; (try first | exact ⟨rfl, _, World.drewN_drewN _ _ _⟩ | exact ⟨rfl, _, Eq.trans (World.drewN_drewN _ _ _) (congrArg (World.drewN _) (Nat.add_assoc _ _ _))⟩)) | (go_at_call 11; (with_reducible refine (drachmlaw08_short.calls a1_1 60 t124 _ A6.out).mono ?_); rintro e w' ⟨rfl, ⟨nd, rfl⟩⟩; (try first | exact ⟨rfl, _, World.drewN_drewN _ _ _⟩ | exact ⟨rfl, _, Eq.trans (World.drewN_drewN _ _ _) (congrArg (World.drewN _) (Nat.add_assoc _ _ _))⟩))); try go_wp2_with (first | ((with_reducible refine gate_dst (N := 4) rfl ?_); refine box_event ?hg (N := 4) ?hd (cs := #[.string a1_0, .string a1_1]) (t := 22) ?hr ?_; (case hd => rfl); (case hg => rfl); (case hr => first | (go_simp; done) | (go_simp; rfl)); intro gb121 hg w8 hbox hb; have n0_ := sb HB hb; have n1_ := Aside0.mk (hbox); have n2_ := Aside0.mk ((by rw [hg]; exact (below_size (bl HB.out)) : w.heap.size ≤ gb121)); have n3_ := Aside0.mk ((by rw [hg]; exact (below_size (bl HB.out)) : w.heap.size ≤ gb121)); clear HB; have HB := n0_; have BK121 := n1_; have GW121 := n2_; have GE121 := n3_; clear n0_ n1_ n2_ n3_; clear hb hbox hg) | (go_at_call 10; (with_reducible refine (drachmlaw08_awake.calls  t122 _ (Glob.use hG (by decide) (bl HB.out)) A4.out).mono ?_); rintro e w9 ⟨rfl, hb⟩; replace BK121 := kb BK121 hb; replace HB := sb HB hb; (try clear hb); (try clear hb2); (try clear hk); (try clear hi); obtain ⟨hcz10_0, hcz10_1⟩ := hc2 BK121.out; obtain ⟨hfz10_0, hfz10_1⟩ := hf2 BK121.out) | (go_at_call 11; (with_reducible refine (drachmlaw08_short.calls a1_0 60 t123 _ A5.out).mono ?_); rintro e w' ⟨rfl, ⟨nd, rfl⟩⟩; (try first | exact ⟨rfl, _, World.drewN_drewN _ _ _⟩ | exact ⟨rfl, _, Eq.trans (World.drewN_drewN _ _ _) (congrArg (World.drewN _) (Nat.add_assoc _ _ _))⟩)) | (go_at_call 11; (with_reducible refine (drachmlaw08_short.calls a1_1 60 t124 _ A6.out).mono ?_); rintro e w' ⟨rfl, ⟨nd, rfl⟩⟩; (try first | exact ⟨rfl, _, World.drewN_drewN _ _ _⟩ | exact ⟨rfl, _, Eq.trans (World.drewN_drewN _ _ _) (congrArg (World.drewN _) (Nat.add_assoc _ _ _))⟩))))
  go_loopg [9, 10] k (fun kq v9 v10 w' => ∃ (x9_1 : ByteArray) (x10_1 : Int), v9 = .string x9_1 ∧ v10 = .int .i64 x10_1 ∧ Aside0 (drachmlaw08_LexTells.l0 kq a0 a2 t122 (t123 ++ t124) x9_1 x10_1 = some r) ∧ Aside0 (kq ≤ k) ∧ Aside0 (w'.heap[gb121]? = some (.cells #[.string a1_0, .string a1_1] 22 (0, 0))) ∧ Aside0 (Below w.heap.size w w'))
  case atStart => exact ⟨((⟨#[]⟩ : ByteArray)), (0), (by first | rfl | (simp; done) | (simp [*]; done)), (by first | rfl | (simp; done) | (simp [*]; done)), H', ⟨Nat.le_refl _⟩, ⟨kp BK121.out⟩, ⟨bl HB.out⟩⟩
  case round =>
   clear H'
   try clear p2
   try clear c3
   try clear c7
   try clear c7b0
   try clear c7b1
   try clear c7b2
   try clear hcz10_0 hcz10_1
   try clear hfz10_0 hfz10_1
   obtain ⟨x9_1, x10_1, rfl, rfl, HA, HK1, BK121, HB⟩ := hrel
   cases gk with
   | zero => exact absurd HA.out (by simp [drachmlaw08_LexTells.l0])
   | succ k1 =>
    have H := HA.out
    clear HA
    simp only [drachmlaw08_LexTells.l0] at H
    replace H := Option.bind_eq_some_iff.mp H
    obtain ⟨t125, A110, H⟩ := H
    replace H : (if x10_1 ≤ t125 then (if x9_1.size + (t123 ++ t124).size ≤ 9223372036854775807 then (drachmlaw08_LexTells.l0 k1 a0 a2 t122 (t123 ++ t124) (x9_1 ++ (t123 ++ t124)) (wrap64 (x10_1 + 1))) else (none)) else (if t122 = true then ((drachmlaw08_tells.f k1 a0 (t123 ++ t124)).bind fun t126 => (if t126 = true then ((drachmlaw08_rest.f a0 8).bind fun t127 => ((drachmlaw08_tells.f k1 (wrap64 (t127 - 1)) (t123 ++ t124)).bind fun t128 => (if t128 = true then ((drachmlaw08_tells.f k1 (wrap64 (t127 - 1)) x9_1).bind fun t129 => (some t129)) else (none)))) else (none))) else (none))) = some r := H
    have A11 := Aside0.mk A110
    clear A110
    by_cases c12 : x10_1 ≤ t125
    ·rw [if_pos c12] at H
     have c12b0 : decide (x10_1 ≤ t125) = true := decide_eq_true c12
     clear c12
     by_cases c13 : x9_1.size + (t123 ++ t124).size ≤ 9223372036854775807
     ·rw [if_pos c13] at H
      have c13b0 := eq_true c13
      have c13b1 : decide (x9_1.size + (t123 ++ t124).size ≤ 9223372036854775807) = true := decide_eq_true c13
      try have c13b2 : (9223372036854775807 < x9_1.size + (t123 ++ t124).size) = False := eq_false (Nat.not_lt.2 c13)
      (try have c13b3 : (9223372036854775807 < x9_1.size + (t123.size + t124.size)) = False := eq_false (by have h_ := c13; simp only [ByteArray.size_append] at h_; omega))
      have H' := Aside0.mk H
      clear H
      go_wp2_with (first | (go_at_call 12; (with_reducible refine (drachmlaw08_rest.calls a2 6 t125 _ A11.out).mono ?_); rintro e w' ⟨rfl, ⟨nd, rfl⟩⟩; (try first | exact ⟨rfl, _, World.drewN_drewN _ _ _⟩ | exact ⟨rfl, _, Eq.trans (World.drewN_drewN _ _ _) (congrArg (World.drewN _) (Nat.add_assoc _ _ _))⟩)))
      repeat (go_quiet (first | (go_at_call 12; (with_reducible refine (drachmlaw08_rest.calls a2 6 t125 _ A11.out).mono ?_); rintro e w' ⟨rfl, ⟨nd, rfl⟩⟩; (try first | exact ⟨rfl, _, World.drewN_drewN _ _ _⟩ | exact ⟨rfl, _, Eq.trans (World.drewN_drewN _ _ _) (congrArg (World.drewN _) (Nat.add_assoc _ _ _))⟩))); try go_wp2_with (first | (go_at_call 12; (with_reducible refine (drachmlaw08_rest.calls a2 6 t125 _ A11.out).mono ?_); rintro e w' ⟨rfl, ⟨nd, rfl⟩⟩; (try first | exact ⟨rfl, _, World.drewN_drewN _ _ _⟩ | exact ⟨rfl, _, Eq.trans (World.drewN_drewN _ _ _) (congrArg (World.drewN _) (Nat.add_assoc _ _ _))⟩))))
      go_roundg k1
      case measure => have := HK1.out; omega
      case rel => exact ⟨(x9_1 ++ (t123 ++ t124)), (wrap64 (x10_1 + 1)), (by first | rfl | (simp; done) | (simp [*]; done)), (by first | rfl | (simp; done) | (simp [*]; done)), H', ⟨by have := HK1.out; omega⟩, ⟨kp BK121.out⟩, ⟨bl HB.out⟩⟩
     ·rw [if_neg c13] at H
      exact absurd H (by simp)
    ·rw [if_neg c12] at H
     have c12b0 : decide (x10_1 ≤ t125) = false := decide_eq_false c12
     clear c12
     by_cases c14 : t122 = true
     ·subst c14
      have H1 : ((drachmlaw08_tells.f k1 a0 (t123 ++ t124)).bind fun t126 => (if t126 = true then ((drachmlaw08_rest.f a0 8).bind fun t127 => ((drachmlaw08_tells.f k1 (wrap64 (t127 - 1)) (t123 ++ t124)).bind fun t128 => (if t128 = true then ((drachmlaw08_tells.f k1 (wrap64 (t127 - 1)) x9_1).bind fun t129 => (some t129)) else (none)))) else (none))) = some r := by rw [if_pos rfl] at H; exact H
      clear H
      have H := H1
      clear H1
      replace H := Option.bind_eq_some_iff.mp H
      obtain ⟨t126, A150, H⟩ := H
      replace H : (if t126 = true then ((drachmlaw08_rest.f a0 8).bind fun t127 => ((drachmlaw08_tells.f k1 (wrap64 (t127 - 1)) (t123 ++ t124)).bind fun t128 => (if t128 = true then ((drachmlaw08_tells.f k1 (wrap64 (t127 - 1)) x9_1).bind fun t129 => (some t129)) else (none)))) else (none)) = some r := H
      have A15 := Aside0.mk A150
      clear A150
      by_cases c16 : t126 = true
      ·subst c16
       have H1 : ((drachmlaw08_rest.f a0 8).bind fun t127 => ((drachmlaw08_tells.f k1 (wrap64 (t127 - 1)) (t123 ++ t124)).bind fun t128 => (if t128 = true then ((drachmlaw08_tells.f k1 (wrap64 (t127 - 1)) x9_1).bind fun t129 => (some t129)) else (none)))) = some r := by rw [if_pos rfl] at H; exact H
       clear H
       have H := H1
       clear H1
       replace H := Option.bind_eq_some_iff.mp H
       obtain ⟨t127, A170, H⟩ := H
       replace H : ((drachmlaw08_tells.f k1 (wrap64 (t127 - 1)) (t123 ++ t124)).bind fun t128 => (if t128 = true then ((drachmlaw08_tells.f k1 (wrap64 (t127 - 1)) x9_1).bind fun t129 => (some t129)) else (none))) = some r := H
       have A17 := Aside0.mk A170
       clear A170
       replace H := Option.bind_eq_some_iff.mp H
       obtain ⟨t128, A180, H⟩ := H
       replace H : (if t128 = true then ((drachmlaw08_tells.f k1 (wrap64 (t127 - 1)) x9_1).bind fun t129 => (some t129)) else (none)) = some r := H
       have A18 := Aside0.mk A180
       clear A180
       by_cases c19 : t128 = true
       ·subst c19
        have H1 : ((drachmlaw08_tells.f k1 (wrap64 (t127 - 1)) x9_1).bind fun t129 => (some t129)) = some r := by rw [if_pos rfl] at H; exact H
        clear H
        have H := H1
        clear H1
        replace H := Option.bind_eq_some_iff.mp H
        obtain ⟨t129, A200, H⟩ := H
        replace H : (some t129) = some r := H
        have A20 := Aside0.mk A200
        clear A200
        obtain rfl := Option.some.inj H
        go_wp2_with (first | (go_at_call 12; (with_reducible refine (drachmlaw08_rest.calls a2 6 t125 _ A11.out).mono ?_); rintro e w' ⟨rfl, ⟨nd, rfl⟩⟩; (try first | exact ⟨rfl, _, World.drewN_drewN _ _ _⟩ | exact ⟨rfl, _, Eq.trans (World.drewN_drewN _ _ _) (congrArg (World.drewN _) (Nat.add_assoc _ _ _))⟩)) | (go_at_call 13; (with_reducible refine (drachmlaw08_tells.calls k1 a0 (t123 ++ t124) true _ (Glob.use hG (by decide) (bl HB.out)) A15.out).mono ?_); rintro e w21 ⟨rfl, hb⟩; replace BK121 := kb BK121 hb; replace HB := sb HB hb; (try clear hb); (try clear hb2); (try clear hk); (try clear hi)) | (go_at_call 12; (with_reducible refine (drachmlaw08_rest.calls a0 8 t127 _ A17.out).mono ?_); rintro e w' ⟨rfl, ⟨nd, rfl⟩⟩; (try first | exact ⟨rfl, _, World.drewN_drewN _ _ _⟩ | exact ⟨rfl, _, Eq.trans (World.drewN_drewN _ _ _) (congrArg (World.drewN _) (Nat.add_assoc _ _ _))⟩)) | (go_at_call 13; (with_reducible refine (drachmlaw08_tells.calls k1 (wrap64 (t127 - 1)) (t123 ++ t124) true _ (Glob.use hG (by decide) (bl HB.out)) A18.out).mono ?_); rintro e w22 ⟨rfl, hb⟩; replace BK121 := kb BK121 hb; replace HB := sb HB hb; (try clear hb); (try clear hb2); (try clear hk); (try clear hi)) | (go_at_call 13; (with_reducible refine (drachmlaw08_tells.calls k1 (wrap64 (t127 - 1)) x9_1 t129 _ (Glob.use hG (by decide) (bl HB.out)) A20.out).mono ?_); rintro e w23 ⟨rfl, hb⟩; replace BK121 := kb BK121 hb; replace HB := sb HB hb; (try clear hb); (try clear hb2); (try clear hk); (try clear hi)))
        repeat (go_quiet (first | (go_at_call 12; (with_reducible refine (drachmlaw08_rest.calls a2 6 t125 _ A11.out).mono ?_); rintro e w' ⟨rfl, ⟨nd, rfl⟩⟩; (try first | exact ⟨rfl, _, World.drewN_drewN _ _ _⟩ | exact ⟨rfl, _, Eq.trans (World.drewN_drewN _ _ _) (congrArg (World.drewN _) (Nat.add_assoc _ _ _))⟩)) | (go_at_call 13; (with_reducible refine (drachmlaw08_tells.calls k1 a0 (t123 ++ t124) true _ (Glob.use hG (by decide) (bl HB.out)) A15.out).mono ?_); rintro e w21 ⟨rfl, hb⟩; replace BK121 := kb BK121 hb; replace HB := sb HB hb; (try clear hb); (try clear hb2); (try clear hk); (try clear hi)) | (go_at_call 12; (with_reducible refine (drachmlaw08_rest.calls a0 8 t127 _ A17.out).mono ?_); rintro e w' ⟨rfl, ⟨nd, rfl⟩⟩; (try first | exact ⟨rfl, _, World.drewN_drewN _ _ _⟩ | exact ⟨rfl, _, Eq.trans (World.drewN_drewN _ _ _) (congrArg (World.drewN _) (Nat.add_assoc _ _ _))⟩)) | (go_at_call 13; (with_reducible refine (drachmlaw08_tells.calls k1 (wrap64 (t127 - 1)) (t123 ++ t124) true _ (Glob.use hG (by decide) (bl HB.out)) A18.out).mono ?_); rintro e w22 ⟨rfl, hb⟩; replace BK121 := kb BK121 hb; replace HB := sb HB hb; (try clear hb); (try clear hb2); (try clear hk); (try clear hi)) | (go_at_call 13; (with_reducible refine (drachmlaw08_tells.calls k1 (wrap64 (t127 - 1)) x9_1 t129 _ (Glob.use hG (by decide) (bl HB.out)) A20.out).mono ?_); rintro e w23 ⟨rfl, hb⟩; replace BK121 := kb BK121 hb; replace HB := sb HB hb; (try clear hb); (try clear hb2); (try clear hk); (try clear hi))); try go_wp2_with (first | (go_at_call 12; (with_reducible refine (drachmlaw08_rest.calls a2 6 t125 _ A11.out).mono ?_); rintro e w' ⟨rfl, ⟨nd, rfl⟩⟩; (try first | exact ⟨rfl, _, World.drewN_drewN _ _ _⟩ | exact ⟨rfl, _, Eq.trans (World.drewN_drewN _ _ _) (congrArg (World.drewN _) (Nat.add_assoc _ _ _))⟩)) | (go_at_call 13; (with_reducible refine (drachmlaw08_tells.calls k1 a0 (t123 ++ t124) true _ (Glob.use hG (by decide) (bl HB.out)) A15.out).mono ?_); rintro e w21 ⟨rfl, hb⟩; replace BK121 := kb BK121 hb; replace HB := sb HB hb; (try clear hb); (try clear hb2); (try clear hk); (try clear hi)) | (go_at_call 12; (with_reducible refine (drachmlaw08_rest.calls a0 8 t127 _ A17.out).mono ?_); rintro e w' ⟨rfl, ⟨nd, rfl⟩⟩; (try first | exact ⟨rfl, _, World.drewN_drewN _ _ _⟩ | exact ⟨rfl, _, Eq.trans (World.drewN_drewN _ _ _) (congrArg (World.drewN _) (Nat.add_assoc _ _ _))⟩)) | (go_at_call 13; (with_reducible refine (drachmlaw08_tells.calls k1 (wrap64 (t127 - 1)) (t123 ++ t124) true _ (Glob.use hG (by decide) (bl HB.out)) A18.out).mono ?_); rintro e w22 ⟨rfl, hb⟩; replace BK121 := kb BK121 hb; replace HB := sb HB hb; (try clear hb); (try clear hb2); (try clear hk); (try clear hi)) | (go_at_call 13; (with_reducible refine (drachmlaw08_tells.calls k1 (wrap64 (t127 - 1)) x9_1 t129 _ (Glob.use hG (by decide) (bl HB.out)) A20.out).mono ?_); rintro e w23 ⟨rfl, hb⟩; replace BK121 := kb BK121 hb; replace HB := sb HB hb; (try clear hb); (try clear hb2); (try clear hk); (try clear hi))))
        go_ret
        exact ⟨by first | rfl | (simp [errW_none, errW_some] <;> rfl) | (simp [*, errW_none, errW_some] <;> rfl), bl HB.out⟩
       ·replace c19 := Bool.eq_false_iff.mpr c19
        subst c19
        have H1 : (none) = some r := by rw [if_neg (show ¬ (false = true) by decide)] at H; exact H
        clear H
        have H := H1
        clear H1
        exact absurd H (by simp)
      ·replace c16 := Bool.eq_false_iff.mpr c16
       subst c16
       have H1 : (none) = some r := by rw [if_neg (show ¬ (false = true) by decide)] at H; exact H
       clear H
       have H := H1
       clear H1
       exact absurd H (by simp)
     ·replace c14 := Bool.eq_false_iff.mpr c14
      subst c14
      have H1 : (none) = some r := by rw [if_neg (show ¬ (false = true) by decide)] at H; exact H
      clear H
      have H := H1
      clear H1
      exact absurd H (by simp)
 ·rw [if_neg c7] at H
  exact absurd H (by simp)

/-- THE ONE PURE STATEMENT of drachmlaw08_LexTells: yours. -/
def drachmlaw08_LexTells.Pure : Prop := ∀ (a0 : Int) (a1_0 : ByteArray) (a1_1 : ByteArray) (a2 : Int), (Lit.int .i64 a0).wf = true → a1_0.size ≤ maxLen → a1_1.size ≤ maxLen → (Lit.int .i64 a2).wf = true → ∃ k, drachmlaw08_LexTells.f k a0 a1_0 a1_1 a2 = some true
theorem drachmlaw08_LexTells.walk (P : drachmlaw08_LexTells.Pure) (a0 : Int) (a1_0 : ByteArray) (a1_1 : ByteArray) (a2 : Int) (w : World) (hG : Glob [0, 2] w) (w0 : (Lit.int .i64 a0).wf = true) (w1_0 : a1_0.size ≤ maxLen) (w1_1 : a1_1.size ≤ maxLen) (w2 : (Lit.int .i64 a2).wf = true) :
  Calls Tryd.prog 3 #[.int .i64 a0, .agg #[.string a1_0, .string a1_1], .int .i64 a2] w fun e w' => e = .returned (.bool true) ∧ Below w.heap.size w w' := by
 obtain ⟨k, h⟩ := P a0 a1_0 a1_1 a2 w0 w1_0 w1_1 w2
 refine (drachmlaw08_LexTells.calls k a0 a1_0 a1_1 a2 true w hG h).mono ?_
 rintro e w' ⟨rfl, hd⟩
 exact ⟨rfl, hd⟩

end Go.Proofs.YtimkhjbnkcgekaaDoor.PLexTells
