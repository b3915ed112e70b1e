/- Printed by a program of this session (wip/tools/prt.py) out of the translation: plain functions, and that the calls come to just them. No conditions beyond those that stand in each theorem. -/
import Derived.Test.YtimkhjbnkcgekaaDoorGlob
import Derived.Test.YtimkhjbnkcgekaaDoorPLexBackx0
namespace Go.Proofs.YtimkhjbnkcgekaaDoor.PLexBack
open Go.Proofs.YtimkhjbnkcgekaaDoor.Sq Go.RowKit Go.Proofs.YtimkhjbnkcgekaaDoorW.PrintWords Go.Proofs.YtimkhjbnkcgekaaDoorW.PrintLast Go.Proofs.YtimkhjbnkcgekaaDoorW.PrintMore Go.Proofs.YtimkhjbnkcgekaaDoor.PB Go.Proofs.YtimkhjbnkcgekaaDoor.PC Go.Proofs.YtimkhjbnkcgekaaDoor.PQ
attribute [local go_sem] max2_int min2_int max_two min_two max_three min_three max_four min_four   -- for this text's walks alone
set_option linter.unusedVariables false
set_option linter.unusedSimpArgs false

/-! ### drachmlaw08_LexBack: function 9 -/
mutual
def drachmlaw08_LexBack.j0 : Nat → ByteArray → Bool → Int → List (S31) → ByteArray → Bool → Option (Bool)
 | 0, _, _, _, _, _, _ => none
 | k + 1, x1, x5, x6, x7, x8, x40 => if x40 = true then (none) else (drachmlaw08_LexBack.l0 k x1 x5 x6 x7 x8 0)
def drachmlaw08_LexBack.l0 : Nat → ByteArray → Bool → Int → List (S31) → ByteArray → Int → Option (Bool)
 | 0, _, _, _, _, _, _ => none
 | k + 1, x1, x5, x6, x7, x8, x10 => if x10 < (x8.size : Int) then (if 0 ≤ x10 then (if x10 < (x1.size : Int) then (if (bt x8 x10) = (bt x1 x10) then (drachmlaw08_LexBack.l0 k x1 x5 x6 x7 x8 (wrap64 (x10 + 1))) else (if x6 = 2 then (if (bt x1 x10) < 97 then (none) else (if (bt x1 x10) > 122 then (none) else (if (bt x8 x10) = (((bt x1 x10) - 32) % 256) then (drachmlaw08_LexBack.l0 k x1 x5 x6 x7 x8 (wrap64 (x10 + 1))) else (none)))) else (if x6 = 4 then (if (bt x1 x10) < 97 then (none) else (if (bt x1 x10) > 122 then (none) else (if (bt x8 x10) = (((bt x1 x10) - 32) % 256) then (drachmlaw08_LexBack.l0 k x1 x5 x6 x7 x8 (wrap64 (x10 + 1))) else (none)))) else (none)))) else (none)) else (none)) else ((lex_Lex.f x6 x1).bind fun bt112 => ((drachmref08_Same.f k bt112.1 x7).bind fun t117 => (if bt112.2.2 = 0 then (if x5 = true then (if t117 = true then (some ((x8.size : Int) == (x1.size : Int))) else (none)) else (none)) else (if x5 = true then (if bt112.2.2 = 14 then (if bt112.2.1 = (x8.size : Int) then (some ((bt112.1.length : Int) == 0)) else (none)) else (none)) else (none)))))
end
def drachmlaw08_LexBack.f (k : Nat) (a0 : Int) (a1 : ByteArray) : Option (Bool) := (drachmlaw08_awake.f).bind fun t101 => ((drachmlaw08_rest.f a0 5).bind fun t102 => ((drachmlaw08_short.f a1 120).bind fun t103 => ((drachmlaw08_each.f (wrap64 (1 + t102)) t103).bind fun t104 => ((lex_Join.f (wrap64 (1 + t102)) t104).bind fun t107 => ((drachmlaw08_each.f (wrap64 (1 + t102)) t107).bind fun t108 => ((drachmref08_Same.f k t108 t104).bind fun t111 => (if t111 = true then (drachmlaw08_LexBack.j0 k t103 t101 (wrap64 (1 + t102)) t104 t107 (decide ((t107.size : Int) > (t103.size : Int)))) else (drachmlaw08_LexBack.j0 k t103 t101 (wrap64 (1 + t102)) t104 t107 true))))))))
theorem drachmlaw08_LexBack.mono_l : ∀ k, (∀ y0 y1 y2 y3 y4 y5, LeO (drachmlaw08_LexBack.j0 k y0 y1 y2 y3 y4 y5) (drachmlaw08_LexBack.j0 (k + 1) y0 y1 y2 y3 y4 y5)) ∧ (∀ y0 y1 y2 y3 y4 y5, LeO (drachmlaw08_LexBack.l0 k y0 y1 y2 y3 y4 y5) (drachmlaw08_LexBack.l0 (k + 1) y0 y1 y2 y3 y4 y5))
 | 0 => ⟨fun _ _ _ _ _ _ r h => by simp [drachmlaw08_LexBack.j0] at h, fun _ _ _ _ _ _ r h => by simp [drachmlaw08_LexBack.l0] at h⟩
 | k + 1 => by
  obtain ⟨ih0, ih1⟩ := drachmlaw08_LexBack.mono_l k
  refine ⟨?_, ?_⟩
  ·intro y0 y1 y2 y3 y4 y5
   unfold drachmlaw08_LexBack.j0
   repeat' first
   | (with_reducible exact ih0 _ _ _ _ _ _)
   | (with_reducible exact ih1 _ _ _ _ _ _)
   | (with_reducible exact drachmref08_Same.mono _ _ _)
   | (with_reducible exact LeO.refl _)
   | (with_reducible exact LeO.none _)
   | (with_reducible refine LeO.ite ?_ ?_)
   | (with_reducible refine LeO.bind ?_ (fun _ => ?_))
   | exact ih0 _ _ _ _ _ _
   | exact ih1 _ _ _ _ _ _
   | exact drachmref08_Same.mono _ _ _
   | exact LeO.none _
   | refine LeO.ite ?_ ?_
   | refine LeO.bind ?_ (fun _ => ?_)
  ·intro y0 y1 y2 y3 y4 y5
   unfold drachmlaw08_LexBack.l0
   repeat' first
   | (with_reducible exact ih0 _ _ _ _ _ _)
   | (with_reducible exact ih1 _ _ _ _ _ _)
   | (with_reducible exact drachmref08_Same.mono _ _ _)
   | (with_reducible exact LeO.refl _)
   | (with_reducible exact LeO.none _)
   | (with_reducible refine LeO.ite ?_ ?_)
   | (with_reducible refine LeO.bind ?_ (fun _ => ?_))
   | exact ih0 _ _ _ _ _ _
   | exact ih1 _ _ _ _ _ _
   | exact drachmref08_Same.mono _ _ _
   | exact LeO.none _
   | refine LeO.ite ?_ ?_
   | refine LeO.bind ?_ (fun _ => ?_)
theorem drachmlaw08_LexBack.mono : ∀ a0 a1 k, LeO (drachmlaw08_LexBack.f k a0 a1) (drachmlaw08_LexBack.f (k + 1) a0 a1) := by
 intro a0 a1 k
 obtain ⟨ih0, ih1⟩ := drachmlaw08_LexBack.mono_l k
 unfold drachmlaw08_LexBack.f
 repeat' first
   | (with_reducible exact ih0 _ _ _ _ _ _)
   | (with_reducible exact ih1 _ _ _ _ _ _)
   | (with_reducible exact drachmref08_Same.mono _ _ _)
   | (with_reducible exact LeO.refl _)
   | (with_reducible exact LeO.none _)
   | (with_reducible refine LeO.ite ?_ ?_)
   | (with_reducible refine LeO.bind ?_ (fun _ => ?_))
   | exact ih0 _ _ _ _ _ _
   | exact ih1 _ _ _ _ _ _
   | exact drachmref08_Same.mono _ _ _
   | exact LeO.none _
   | refine LeO.ite ?_ ?_
   | refine LeO.bind ?_ (fun _ => ?_)
set_option maxHeartbeats 8000000 in
set_option maxRecDepth 100000 in
theorem drachmlaw08_LexBack.calls (k : Nat) (a0 : Int) (a1 : ByteArray) (r : Bool) (w : World) (hG : Glob [0, 2] w) (h : drachmlaw08_LexBack.f k a0 a1 = some r) :
  Calls Tryd.prog 9 #[.int .i64 a0, .string a1] w fun e w' => e = .returned (.bool r) ∧ Below w.heap.size w w' := by
 have HB := Aside0.mk (Below.refl w.heap.size w)
 have H : ((drachmlaw08_awake.f).bind fun t101 => ((drachmlaw08_rest.f a0 5).bind fun t102 => ((drachmlaw08_short.f a1 120).bind fun t103 => ((drachmlaw08_each.f (wrap64 (1 + t102)) t103).bind fun t104 => ((lex_Join.f (wrap64 (1 + t102)) t104).bind fun t107 => ((drachmlaw08_each.f (wrap64 (1 + t102)) t107).bind fun t108 => ((drachmref08_Same.f k t108 t104).bind fun t111 => (if t111 = true then (drachmlaw08_LexBack.j0 k t103 t101 (wrap64 (1 + t102)) t104 t107 (decide ((t107.size : Int) > (t103.size : Int)))) else (drachmlaw08_LexBack.j0 k t103 t101 (wrap64 (1 + t102)) t104 t107 true))))))))) = some r := h
 clear h
 replace H := Option.bind_eq_some_iff.mp H
 obtain ⟨t101, A30, H⟩ := H
 replace H : ((drachmlaw08_rest.f a0 5).bind fun t102 => ((drachmlaw08_short.f a1 120).bind fun t103 => ((drachmlaw08_each.f (wrap64 (1 + t102)) t103).bind fun t104 => ((lex_Join.f (wrap64 (1 + t102)) t104).bind fun t107 => ((drachmlaw08_each.f (wrap64 (1 + t102)) t107).bind fun t108 => ((drachmref08_Same.f k t108 t104).bind fun t111 => (if t111 = true then (drachmlaw08_LexBack.j0 k t103 t101 (wrap64 (1 + t102)) t104 t107 (decide ((t107.size : Int) > (t103.size : Int)))) else (drachmlaw08_LexBack.j0 k t103 t101 (wrap64 (1 + t102)) t104 t107 true)))))))) = some r := H
 have A3 := Aside0.mk A30
 clear A30
 replace H := Option.bind_eq_some_iff.mp H
 obtain ⟨t102, A40, H⟩ := H
 replace H : ((drachmlaw08_short.f a1 120).bind fun t103 => ((drachmlaw08_each.f (wrap64 (1 + t102)) t103).bind fun t104 => ((lex_Join.f (wrap64 (1 + t102)) t104).bind fun t107 => ((drachmlaw08_each.f (wrap64 (1 + t102)) t107).bind fun t108 => ((drachmref08_Same.f k t108 t104).bind fun t111 => (if t111 = true then (drachmlaw08_LexBack.j0 k t103 t101 (wrap64 (1 + t102)) t104 t107 (decide ((t107.size : Int) > (t103.size : Int)))) else (drachmlaw08_LexBack.j0 k t103 t101 (wrap64 (1 + t102)) t104 t107 true))))))) = some r := H
 have A4 := Aside0.mk A40
 clear A40
 replace H := Option.bind_eq_some_iff.mp H
 obtain ⟨t103, A50, H⟩ := H
 replace H : ((drachmlaw08_each.f (wrap64 (1 + t102)) t103).bind fun t104 => ((lex_Join.f (wrap64 (1 + t102)) t104).bind fun t107 => ((drachmlaw08_each.f (wrap64 (1 + t102)) t107).bind fun t108 => ((drachmref08_Same.f k t108 t104).bind fun t111 => (if t111 = true then (drachmlaw08_LexBack.j0 k t103 t101 (wrap64 (1 + t102)) t104 t107 (decide ((t107.size : Int) > (t103.size : Int)))) else (drachmlaw08_LexBack.j0 k t103 t101 (wrap64 (1 + t102)) t104 t107 true)))))) = some r := H
 have A5 := Aside0.mk A50
 clear A50
 replace H := Option.bind_eq_some_iff.mp H
 obtain ⟨t104, A60, H⟩ := H
 replace H : ((lex_Join.f (wrap64 (1 + t102)) t104).bind fun t107 => ((drachmlaw08_each.f (wrap64 (1 + t102)) t107).bind fun t108 => ((drachmref08_Same.f k t108 t104).bind fun t111 => (if t111 = true then (drachmlaw08_LexBack.j0 k t103 t101 (wrap64 (1 + t102)) t104 t107 (decide ((t107.size : Int) > (t103.size : Int)))) else (drachmlaw08_LexBack.j0 k t103 t101 (wrap64 (1 + t102)) t104 t107 true))))) = some r := H
 have A6 := Aside0.mk A60
 clear A60
 replace H := Option.bind_eq_some_iff.mp H
 obtain ⟨t107, A70, H⟩ := H
 replace H : ((drachmlaw08_each.f (wrap64 (1 + t102)) t107).bind fun t108 => ((drachmref08_Same.f k t108 t104).bind fun t111 => (if t111 = true then (drachmlaw08_LexBack.j0 k t103 t101 (wrap64 (1 + t102)) t104 t107 (decide ((t107.size : Int) > (t103.size : Int)))) else (drachmlaw08_LexBack.j0 k t103 t101 (wrap64 (1 + t102)) t104 t107 true)))) = some r := H
 have A7 := Aside0.mk A70
 clear A70
 replace H := Option.bind_eq_some_iff.mp H
 obtain ⟨t108, A80, H⟩ := H
 replace H : ((drachmref08_Same.f k t108 t104).bind fun t111 => (if t111 = true then (drachmlaw08_LexBack.j0 k t103 t101 (wrap64 (1 + t102)) t104 t107 (decide ((t107.size : Int) > (t103.size : Int)))) else (drachmlaw08_LexBack.j0 k t103 t101 (wrap64 (1 + t102)) t104 t107 true))) = some r := H
 have A8 := Aside0.mk A80
 clear A80
 replace H := Option.bind_eq_some_iff.mp H
 obtain ⟨t111, A90, H⟩ := H
 replace H : (if t111 = true then (drachmlaw08_LexBack.j0 k t103 t101 (wrap64 (1 + t102)) t104 t107 (decide ((t107.size : Int) > (t103.size : Int)))) else (drachmlaw08_LexBack.j0 k t103 t101 (wrap64 (1 + t102)) t104 t107 true)) = some r := H
 have A9 := Aside0.mk A90
 clear A90
 have HC10 := Aside0.mk H
 clear H
 go_enter Tryd.func9, Tryd.ntmps9
 go_upto_region 7 with (first | (go_at_call 10; (with_reducible refine (drachmlaw08_awake.calls  t101 _ (Glob.use hG (by decide) (bl HB.out)) A3.out).mono ?_); rintro e w11 ⟨rfl, hb⟩; replace HB := sb HB hb; (try clear hb); (try clear hb2); (try clear hk); (try clear hi)) | (go_at_call 12; (with_reducible refine (drachmlaw08_rest.calls a0 5 t102 _ A4.out).mono ?_); rintro e w' ⟨rfl, ⟨nd, rfl⟩⟩; (try first | exact ⟨rfl, _, World.drewN_drewN _ _ _⟩ | exact ⟨rfl, _, Eq.trans (World.drewN_drewN _ _ _) (congrArg (World.drewN _) (Nat.add_assoc _ _ _))⟩)) | (go_at_call 11; (with_reducible refine (drachmlaw08_short.calls a1 120 t103 _ A5.out).mono ?_); rintro e w' ⟨rfl, ⟨nd, rfl⟩⟩; (try first | exact ⟨rfl, _, World.drewN_drewN _ _ _⟩ | exact ⟨rfl, _, Eq.trans (World.drewN_drewN _ _ _) (congrArg (World.drewN _) (Nat.add_assoc _ _ _))⟩)) | (go_at_call 14; (with_reducible refine (drachmlaw08_each.calls (wrap64 (1 + t102)) t103 t104 _ (Glob.use hG (by decide) (bl HB.out)) A6.out).mono ?_); rintro e w12 ⟨v105, rfl, ho0, hb⟩; have HO106 := Aside0.mk (Kd.R_lower ho0 (below_size (bl HB.out))); replace HB := sb HB hb; (try clear hb); (try clear hb2); (try clear hk); (try clear hi); (try clear ho0); obtain ⟨Ao13, co13, eo13⟩ := Kd.R_slice HO106.out; subst eo13) | (go_at_call 20; (with_reducible refine (lex_Join.calls (wrap64 (1 + t102)) _ _ t104 t107 _ ?side1 ?side2 (Glob.use hG (by decide) (bl HB.out)) A7.out).mono ?_); (case side1 => repeat (first | exact (Kd.R_reads' HO106.out).2.2 | (with_reducible refine Kd.C_alloc ?_ _) | (with_reducible refine Kd.C_drewN ?_ _) | (with_reducible refine Kd.C_drew ?_))); (case side2 => exact (Kd.R_reads' HO106.out).2.1); rintro e w14 ⟨rfl, hb⟩; have n0_ := Aside0.mk (Kd.R_below (by (with_reducible repeat (first | apply Kd.R_alloc | apply Kd.R_drewN | apply Kd.R_drew)); exact HO106.out) hb); have n1_ := sb HB hb; clear HO106; clear HB; have HO106 := n0_; have HB := n1_; clear n0_ n1_; (try clear hb); (try clear hb2); (try clear hk); (try clear hi)) | (go_at_call 14; (with_reducible refine (drachmlaw08_each.calls (wrap64 (1 + t102)) t107 t108 _ (Glob.use hG (by decide) (bl HB.out)) A8.out).mono ?_); rintro e w15 ⟨v109, rfl, ho0, hb⟩; have n0_ := Aside0.mk (Kd.R_elder' (by (with_reducible repeat (first | apply Kd.R_alloc | apply Kd.R_drewN | apply Kd.R_drew)); exact HO106.out) (Kd.R_base ho0) hb); have n1_ := Aside0.mk (Kd.R_lower (Kd.R_new' ho0 (Kd.R_lt (by (with_reducible repeat (first | apply Kd.R_alloc | apply Kd.R_drewN | apply Kd.R_drew)); exact HO106.out))) (below_size (bl HB.out))); have n2_ := sb HB hb; clear HO106; clear HB; have HO106 := n0_; have HO110 := n1_; have HB := n2_; clear n0_ n1_ n2_; (try clear hb); (try clear hb2); (try clear hk); (try clear hi); (try clear ho0); obtain ⟨Ao16, co16, eo16⟩ := Kd.R_slice HO110.out; subst eo16) | (go_at_call 16; (with_reducible refine (drachmref08_Same.calls k _ _ t108 _ _ t104 t111 _ ?side1 ?side2 ?side3 ?side4 A9.out).mono ?_); (case side1 => repeat (first | exact (Kd.R_reads' HO110.out).2.2 | (with_reducible refine Kd.C_alloc ?_ _) | (with_reducible refine Kd.C_drewN ?_ _) | (with_reducible refine Kd.C_drew ?_))); (case side2 => exact (Kd.R_reads' HO110.out).2.1); (case side3 => repeat (first | exact (Kd.R_reads' HO106.out).2.2 | (with_reducible refine Kd.C_alloc ?_ _) | (with_reducible refine Kd.C_drewN ?_ _) | (with_reducible refine Kd.C_drew ?_))); (case side4 => exact (Kd.R_reads' HO106.out).2.1); rintro e w' ⟨rfl, ⟨nd, rfl⟩⟩; (try first | exact ⟨rfl, _, World.drewN_drewN _ _ _⟩ | exact ⟨rfl, _, Eq.trans (World.drewN_drewN _ _ _) (congrArg (World.drewN _) (Nat.add_assoc _ _ _))⟩)))
 repeat (go_quiet (first | (go_at_call 10; (with_reducible refine (drachmlaw08_awake.calls  t101 _ (Glob.use hG (by decide) (bl HB.out)) A3.out).mono ?_); rintro e w11 ⟨rfl, hb⟩; replace HB := sb HB hb; (try clear hb); (try clear hb2); (try clear hk); (try clear hi)) | (go_at_call 12; (with_reducible refine (drachmlaw08_rest.calls a0 5 t102 _ A4.out).mono ?_); rintro e w' ⟨rfl, ⟨nd, rfl⟩⟩; (try first | exact ⟨rfl, _, World.drewN_drewN _ _ _⟩ | exact ⟨rfl, _, Eq.trans (World.drewN_drewN _ _ _) (congrArg (World.drewN _) (Nat.add_assoc _ _ _))⟩)) | (go_at_call 11; (with_reducible refine (drachmlaw08_short.calls a1 120 t103 _ A5.out).mono ?_); rintro e w' ⟨rfl, ⟨nd, rfl⟩⟩; (try first | exact ⟨rfl, _, World.drewN_drewN _ _ _⟩ | exact ⟨rfl, _, Eq.trans (World.drewN_drewN _ _ _) (congrArg (World.drewN _) (Nat.add_assoc _ _ _))⟩)) | (go_at_call 14; (with_reducible refine (drachmlaw08_each.calls (wrap64 (1 + t102)) t103 t104 _ (Glob.use hG (by decide) (bl HB.out)) A6.out).mono ?_); rintro e w12 ⟨v105, rfl, ho0, hb⟩; have HO106 := Aside0.mk (Kd.R_lower ho0 (below_size (bl HB.out))); replace HB := sb HB hb; (try clear hb); (try clear hb2); (try clear hk); (try clear hi); (try clear ho0); obtain ⟨Ao13, co13, eo13⟩ := Kd.R_slice HO106.out; subst eo13) | (go_at_call 20; (with_reducible refine (lex_Join.calls (wrap64 (1 + t102)) _ _ t104 t107 _ ?side1 ?side2 (Glob.use hG (by decide) (bl HB.out)) A7.out).mono ?_); (case side1 => repeat (first | exact (Kd.R_reads' HO106.out).2.2 | (with_reducible refine Kd.C_alloc ?_ _) | (with_reducible refine Kd.C_drewN ?_ _) | (with_reducible refine Kd.C_drew ?_))); (case side2 => exact (Kd.R_reads' HO106.out).2.1); rintro e w14 ⟨rfl, hb⟩; have n0_ := Aside0.mk (Kd.R_below (by (with_reducible repeat (first | apply Kd.R_alloc | apply Kd.R_drewN | apply Kd.R_drew)); exact HO106.out) hb); have n1_ := sb HB hb; clear HO106; clear HB; have HO106 := n0_; have HB := n1_; clear n0_ n1_; (try clear hb); (try clear hb2); (try clear hk); (try clear hi)) | (go_at_call 14; (with_reducible refine (drachmlaw08_each.calls (wrap64 (1 + t102)) t107 t108 _ (Glob.use hG (by decide) (bl HB.out)) A8.out).mono ?_); rintro e w15 ⟨v109, rfl, ho0, hb⟩; have n0_ := Aside0.mk (Kd.R_elder' (by (with_reducible repeat (first | apply Kd.R_alloc | apply Kd.R_drewN | apply Kd.R_drew)); exact HO106.out) (Kd.R_base ho0) hb); have n1_ := Aside0.mk (Kd.R_lower (Kd.R_new' ho0 (Kd.R_lt (by (with_reducible repeat (first | apply Kd.R_alloc | apply Kd.R_drewN | apply Kd.R_drew)); exact HO106.out))) (below_size (bl HB.out))); have n2_ := sb HB hb; clear HO106; clear HB; have HO106 := n0_; have HO110 := n1_; have HB := n2_; clear n0_ n1_ n2_; (try clear hb); (try clear hb2); (try clear hk); (try clear hi); (try clear ho0); obtain ⟨Ao16, co16, eo16⟩ := Kd.R_slice HO110.out; subst eo16) | (go_at_call 16; (with_reducible refine (drachmref08_Same.calls k _ _ t108 _ _ t104 t111 _ ?side1 ?side2 ?side3 ?side4 A9.out).mono ?_); (case side1 => repeat (first | exact (Kd.R_reads' HO110.out).2.2 | (with_reducible refine Kd.C_alloc ?_ _) | (with_reducible refine Kd.C_drewN ?_ _) | (with_reducible refine Kd.C_drew ?_))); (case side2 => exact (Kd.R_reads' HO110.out).2.1); (case side3 => repeat (first | exact (Kd.R_reads' HO106.out).2.2 | (with_reducible refine Kd.C_alloc ?_ _) | (with_reducible refine Kd.C_drewN ?_ _) | (with_reducible refine Kd.C_drew ?_))); (case side4 => exact (Kd.R_reads' HO106.out).2.1); rintro e w' ⟨rfl, ⟨nd, rfl⟩⟩; (try first | exact ⟨rfl, _, World.drewN_drewN _ _ _⟩ | exact ⟨rfl, _, Eq.trans (World.drewN_drewN _ _ _) (congrArg (World.drewN _) (Nat.add_assoc _ _ _))⟩))); go_upto_region 7 with (first | (go_at_call 10; (with_reducible refine (drachmlaw08_awake.calls  t101 _ (Glob.use hG (by decide) (bl HB.out)) A3.out).mono ?_); rintro e w11 ⟨rfl, hb⟩; replace HB := sb HB hb; (try clear hb); (try clear hb2); (try clear hk); (try clear hi)) | (go_at_call 12; (with_reducible refine (drachmlaw08_rest.calls a0 5 t102 _ A4.out).mono ?_); rintro e w' ⟨rfl, ⟨nd, rfl⟩⟩; (try first | exact ⟨rfl, _, World.drewN_drewN _ _ _⟩ | exact ⟨rfl, _, Eq.trans (World.drewN_drewN _ _ _) (congrArg (World.drewN _) (Nat.add_assoc _ _ _))⟩)) | (go_at_call 11; (with_reducible refine (drachmlaw08_short.calls a1 120 t103 _ A5.out).mono ?_); rintro e w' ⟨rfl, ⟨nd, rfl⟩⟩; (try first | exact ⟨rfl, _, World.drewN_drewN _ _ _⟩ | exact ⟨rfl, _, Eq.trans (World.drewN_drewN _ _ _) (congrArg (World.drewN _) (Nat.add_assoc _ _ _))⟩)) | (go_at_call 14; (with_reducible refine (drachmlaw08_each.calls (wrap64 (1 + t102)) t103 t104 _ (Glob.use hG (by decide) (bl HB.out)) A6.out).mono ?_); rintro e w12 ⟨v105, rfl, ho0, hb⟩; have HO106 := Aside0.mk (Kd.R_lower ho0 (below_size (bl HB.out))); replace HB := sb HB hb; (try clear hb); (try clear hb2); (try clear hk); (try clear hi); (try clear ho0); obtain ⟨Ao13, co13, eo13⟩ := Kd.R_slice HO106.out; subst eo13) | (go_at_call 20; (with_reducible refine (lex_Join.calls (wrap64 (1 + t102)) _ _ t104 t107 _ ?side1 ?side2 (Glob.use hG (by decide) (bl HB.out)) A7.out).mono ?_); (case side1 => repeat (first | exact (Kd.R_reads' HO106.out).2.2 | (with_reducible refine Kd.C_alloc ?_ _) | (with_reducible refine Kd.C_drewN ?_ _) | (with_reducible refine Kd.C_drew ?_))); (case side2 => exact (Kd.R_reads' HO106.out).2.1); rintro e w14 ⟨rfl, hb⟩; have n0_ := Aside0.mk (Kd.R_below (by (with_reducible repeat (first | apply Kd.R_alloc | apply Kd.R_drewN | apply Kd.R_drew)); exact HO106.out) hb); have n1_ := sb HB hb; clear HO106; clear HB; have HO106 := n0_; have HB := n1_; clear n0_ n1_; (try clear hb); (try clear hb2); (try clear hk); (try clear hi)) | (go_at_call 14; (with_reducible refine (drachmlaw08_each.calls (wrap64 (1 + t102)) t107 t108 _ (Glob.use hG (by decide) (bl HB.out)) A8.out).mono ?_); rintro e w15 ⟨v109, rfl, ho0, hb⟩; have n0_ := Aside0.mk (Kd.R_elder' (by (with_reducible repeat (first | apply Kd.R_alloc | apply Kd.R_drewN | apply Kd.R_drew)); exact HO106.out) (Kd.R_base ho0) hb); have n1_ := Aside0.mk (Kd.R_lower (Kd.R_new' ho0 (Kd.R_lt (by (with_reducible repeat (first | apply Kd.R_alloc | apply Kd.R_drewN | apply Kd.R_drew)); exact HO106.out))) (below_size (bl HB.out))); have n2_ := sb HB hb; clear HO106; clear HB; have HO106 := n0_; have HO110 := n1_; have HB := n2_; clear n0_ n1_ n2_; (try clear hb); (try clear hb2); (try clear hk); (try clear hi); (try clear ho0); obtain ⟨Ao16, co16, eo16⟩ := Kd.R_slice HO110.out; subst eo16) | (go_at_call 16; (with_reducible refine (drachmref08_Same.calls k _ _ t108 _ _ t104 t111 _ ?side1 ?side2 ?side3 ?side4 A9.out).mono ?_); (case side1 => repeat (first | exact (Kd.R_reads' HO110.out).2.2 | (with_reducible refine Kd.C_alloc ?_ _) | (with_reducible refine Kd.C_drewN ?_ _) | (with_reducible refine Kd.C_drew ?_))); (case side2 => exact (Kd.R_reads' HO110.out).2.1); (case side3 => repeat (first | exact (Kd.R_reads' HO106.out).2.2 | (with_reducible refine Kd.C_alloc ?_ _) | (with_reducible refine Kd.C_drewN ?_ _) | (with_reducible refine Kd.C_drew ?_))); (case side4 => exact (Kd.R_reads' HO106.out).2.1); rintro e w' ⟨rfl, ⟨nd, rfl⟩⟩; (try first | exact ⟨rfl, _, World.drewN_drewN _ _ _⟩ | exact ⟨rfl, _, Eq.trans (World.drewN_drewN _ _ _) (congrArg (World.drewN _) (Nat.add_assoc _ _ _))⟩))))
 (try simp only [Act.put, List.setIfInBounds_toArray, List.set_cons_zero, List.set_cons_succ])
 go_cut [40] (fun v40 wc => ∃ (kq : Nat) (x40_9 : Bool), v40 = .bool x40_9 ∧ Aside0 (drachmlaw08_LexBack.j0 kq t103 t101 (wrap64 (1 + t102)) t104 t107 x40_9 = some r) ∧ Aside0 (kq ≤ k) ∧ Aside0 (Kd.R k31 31 wc w.heap.size (fun _ => True) (.slice Ao13 t104.length co13) t104) ∧ Aside0 (Below w.heap.size w wc))
 case first =>
  have H := HC10.out
  clear HC10
  by_cases c17 : t111 = true
  ·subst c17
   have H1 : (drachmlaw08_LexBack.j0 k t103 t101 (wrap64 (1 + t102)) t104 t107 (decide ((t107.size : Int) > (t103.size : Int)))) = some r := by rw [if_pos rfl] at H; exact H
   clear H
   have H := H1
   clear H1
   have H' := Aside0.mk H
   clear H
   go_wp2
   repeat (go_quiet (fail); try go_wp2)
   go_meet
   case rel => exact ⟨_, (decide ((t107.size : Int) > (t103.size : Int))), (by first | rfl | (simp; done) | (simp [*]; done)), H', ⟨by first | omega | exact Nat.le_refl _⟩, ⟨by (with_reducible repeat (first | apply Kd.R_alloc | apply Kd.R_drewN | apply Kd.R_drew)); exact Kd.R_mono HO106.out (fun _ hk => trivial)⟩, ⟨bl HB.out⟩⟩
  ·replace c17 := Bool.eq_false_iff.mpr c17
   subst c17
   have H1 : (drachmlaw08_LexBack.j0 k t103 t101 (wrap64 (1 + t102)) t104 t107 true) = some r := by rw [if_neg (show ¬ (false = true) by decide)] at H; exact H
   clear H
   have H := H1
   clear H1
   have H' := Aside0.mk H
   clear H
   go_wp2
   repeat (go_quiet (fail); try go_wp2)
   go_meet
   case rel => exact ⟨_, (true), (by first | rfl | (simp; done) | (simp [*]; done)), H', ⟨by first | omega | exact Nat.le_refl _⟩, ⟨by (with_reducible repeat (first | apply Kd.R_alloc | apply Kd.R_drewN | apply Kd.R_drew)); exact Kd.R_mono HO106.out (fun _ hk => trivial)⟩, ⟨bl HB.out⟩⟩
 case rest =>
  clear HC10
  try clear c1
  try clear p2
  try clear p6
  try clear c9
  try clear c17
  obtain ⟨kq, x40_9, rfl, HA, HJ9, HO_7, HB⟩ := hcut
  cases kq with
  | zero => exact absurd HA.out (by simp [drachmlaw08_LexBack.j0])
  | succ kj9 =>
   have H := HA.out
   clear HA
   simp only [drachmlaw08_LexBack.j0] at H
   by_cases c18 : x40_9 = true
   ·subst c18
    have H1 : (none) = some r := by rw [if_pos rfl] at H; exact H
    clear H
    have H := H1
    clear H1
    exact absurd H (by simp)
   ·replace c18 := Bool.eq_false_iff.mpr c18
    subst c18
    have H1 : (drachmlaw08_LexBack.l0 kj9 t103 t101 (wrap64 (1 + t102)) t104 t107 0) = some r := by rw [if_neg (show ¬ (false = true) by decide)] at H; exact H
    clear H
    have H := H1
    clear H1
    have H' := Aside0.mk H
    clear H
    go_wp2
    repeat (go_quiet (fail); try go_wp2)
    go_loopg [10] kj9 (fun kq v10 w' => ∃ (x10_2 : Int), v10 = .int .i64 x10_2 ∧ Aside0 (drachmlaw08_LexBack.l0 kq t103 t101 (wrap64 (1 + t102)) t104 t107 x10_2 = some r) ∧ Aside0 (kq ≤ kj9) ∧ Aside0 (Kd.R k31 31 w' w.heap.size (fun _ => True) (.slice Ao13 t104.length co13) t104) ∧ Aside0 (Below w.heap.size w w'))
    case atStart => exact ⟨(0), (by first | rfl | (simp; done) | (simp [*]; done)), H', ⟨Nat.le_refl _⟩, ⟨by (with_reducible repeat (first | apply Kd.R_alloc | apply Kd.R_drewN | apply Kd.R_drew)); exact HO_7.out⟩, ⟨bl HB.out⟩⟩
    case round =>
     clear H'
     try clear c1
     try clear p2
     try clear p6
     try clear c9
     try clear c17
     try clear c18
     try clear p2
     try clear p6
     obtain ⟨x10_2, rfl, HA, HK2, HO_7, HB⟩ := hrel
     cases gk with
     | zero => exact absurd HA.out (by simp [drachmlaw08_LexBack.l0])
     | succ k2 =>
      have H := HA.out
      clear HA
      simp only [drachmlaw08_LexBack.l0] at H
      by_cases c19 : x10_2 < (t107.size : Int)
      ·rw [if_pos c19] at H
       have c19b0 : decide (x10_2 < (t107.size : Int)) = true := decide_eq_true c19
       clear c19
       by_cases c20 : 0 ≤ x10_2
       ·rw [if_pos c20] at H
        have c20b0 : decide (0 ≤ x10_2) = true := decide_eq_true c20
        clear c20
        by_cases c22 : x10_2 < (t103.size : Int)
        ·rw [if_pos c22] at H
         have c22b0 : decide (x10_2 < (t103.size : Int)) = true := decide_eq_true c22
         clear c22
         by_cases c24 : (bt t107 x10_2) = (bt t103 x10_2)
         ·rw [if_pos c24] at H
          have c24b0 : ((bt t107 x10_2) == (bt t103 x10_2)) = true := beq_iff_eq.mpr c24
          have c24b1 : ((bt t107 x10_2) != (bt t103 x10_2)) = false := bne_eq_false_iff_eq.mpr c24
          clear c24
          have H' := Aside0.mk H
          clear H
          have p21 : 0 ≤ (x10_2 : Int) := of_decide_eq_true (by first | (with_reducible assumption) | assumption)
          have q21 : x10_2 < (t107.size : Int) := of_decide_eq_true (by first | (with_reducible assumption) | assumption)
          have hx21 := bt_at t107 x10_2
          replace p21 := eq_true p21
          replace q21 := eq_true q21
          have p23 : 0 ≤ (x10_2 : Int) := of_decide_eq_true (by first | (with_reducible assumption) | assumption)
          have q23 : x10_2 < (t103.size : Int) := of_decide_eq_true (by first | (with_reducible assumption) | assumption)
          have hx23 := bt_at t103 x10_2
          replace p23 := eq_true p23
          replace q23 := eq_true q23
          go_wp2
          repeat (go_quiet (fail); try go_wp2)
          go_roundg k2
          case measure => have := HJ9.out; have := HK2.out; omega
          case rel => exact ⟨(wrap64 (x10_2 + 1)), (by first | rfl | (simp; done) | (simp [*]; done)), H', ⟨by have := HJ9.out; have := HK2.out; omega⟩, ⟨by (with_reducible repeat (first | apply Kd.R_alloc | apply Kd.R_drewN | apply Kd.R_drew)); exact HO_7.out⟩, ⟨bl HB.out⟩⟩
         ·rw [if_neg c24] at H
          have c24b0 : ((bt t107 x10_2) == (bt t103 x10_2)) = false := beq_eq_false_iff_ne.mpr c24
          have c24b1 : ((bt t107 x10_2) != (bt t103 x10_2)) = true := bne_iff_ne.mpr c24
          by_cases c25 : (wrap64 (1 + t102)) = 2
          ·rw [if_pos c25] at H
           have c25b0 : ((wrap64 (1 + t102)) == 2) = true := beq_iff_eq.mpr c25
           have c25b1 : ((wrap64 (1 + t102)) != 2) = false := bne_eq_false_iff_eq.mpr c25
           clear c25
           by_cases c27 : (bt t103 x10_2) < 97
           ·rw [if_pos c27] at H
            exact absurd H (by simp)
           ·rw [if_neg c27] at H
            have c27b0 : decide ((bt t103 x10_2) < 97) = false := decide_eq_false c27
            clear c27
            by_cases c29 : (bt t103 x10_2) > 122
            ·rw [if_pos c29] at H
             exact absurd H (by simp)
            ·rw [if_neg c29] at H
             have c29b0 : decide (122 < (bt t103 x10_2)) = false := decide_eq_false c29
             clear c29
             by_cases c32 : (bt t107 x10_2) = (((bt t103 x10_2) - 32) % 256)
             ·rw [if_pos c32] at H
              have c32b0 : ((bt t107 x10_2) == (((bt t103 x10_2) - 32) % 256)) = true := beq_iff_eq.mpr c32
              have c32b1 : ((bt t107 x10_2) != (((bt t103 x10_2) - 32) % 256)) = false := bne_eq_false_iff_eq.mpr c32
              clear c32
              have H' := Aside0.mk H
              clear H
              have p21 : 0 ≤ (x10_2 : Int) := of_decide_eq_true (by first | (with_reducible assumption) | assumption)
              have q21 : x10_2 < (t107.size : Int) := of_decide_eq_true (by first | (with_reducible assumption) | assumption)
              have hx21 := bt_at t107 x10_2
              replace p21 := eq_true p21
              replace q21 := eq_true q21
              have p23 : 0 ≤ (x10_2 : Int) := of_decide_eq_true (by first | (with_reducible assumption) | assumption)
              have q23 : x10_2 < (t103.size : Int) := of_decide_eq_true (by first | (with_reducible assumption) | assumption)
              have hx23 := bt_at t103 x10_2
              replace p23 := eq_true p23
              replace q23 := eq_true q23
              have p26 : 0 ≤ (x10_2 : Int) := of_decide_eq_true (by first | (with_reducible assumption) | assumption)
              have q26 : x10_2 < (t103.size : Int) := of_decide_eq_true (by first | (with_reducible assumption) | assumption)
              have hx26 := bt_at t103 x10_2
              replace p26 := eq_true p26
              replace q26 := eq_true q26
              have p28 : 0 ≤ (x10_2 : Int) := of_decide_eq_true (by first | (with_reducible assumption) | assumption)
              have q28 : x10_2 < (t103.size : Int) := of_decide_eq_true (by first | (with_reducible assumption) | assumption)
              have hx28 := bt_at t103 x10_2
              replace p28 := eq_true p28
              replace q28 := eq_true q28
              have p30 : 0 ≤ (x10_2 : Int) := of_decide_eq_true (by first | (with_reducible assumption) | assumption)
              have q30 : x10_2 < (t107.size : Int) := of_decide_eq_true (by first | (with_reducible assumption) | assumption)
              have hx30 := bt_at t107 x10_2
              replace p30 := eq_true p30
              replace q30 := eq_true q30
              have p31 : 0 ≤ (x10_2 : Int) := of_decide_eq_true (by first | (with_reducible assumption) | assumption)
              have q31 : x10_2 < (t103.size : Int) := of_decide_eq_true (by first | (with_reducible assumption) | assumption)
              have hx31 := bt_at t103 x10_2
              replace p31 := eq_true p31
              replace q31 := eq_true q31
              go_wp2
              repeat (go_quiet (fail); try go_wp2)
              go_roundg k2
              case measure => have := HJ9.out; have := HK2.out; omega
              case rel => exact ⟨(wrap64 (x10_2 + 1)), (by first | rfl | (simp; done) | (simp [*]; done)), H', ⟨by have := HJ9.out; have := HK2.out; omega⟩, ⟨by (with_reducible repeat (first | apply Kd.R_alloc | apply Kd.R_drewN | apply Kd.R_drew)); exact HO_7.out⟩, ⟨bl HB.out⟩⟩
             ·rw [if_neg c32] at H
              exact absurd H (by simp)
          ·rw [if_neg c25] at H
           have c25b0 : ((wrap64 (1 + t102)) == 2) = false := beq_eq_false_iff_ne.mpr c25
           have c25b1 : ((wrap64 (1 + t102)) != 2) = true := bne_iff_ne.mpr c25
           by_cases c33 : (wrap64 (1 + t102)) = 4
           ·rw [if_pos c33] at H
            have c33b0 : ((wrap64 (1 + t102)) == 4) = true := beq_iff_eq.mpr c33
            have c33b1 : ((wrap64 (1 + t102)) != 4) = false := bne_eq_false_iff_eq.mpr c33
            clear c33
            by_cases c35 : (bt t103 x10_2) < 97
            ·rw [if_pos c35] at H
             exact absurd H (by simp)
            ·rw [if_neg c35] at H
             have c35b0 : decide ((bt t103 x10_2) < 97) = false := decide_eq_false c35
             clear c35
             by_cases c37 : (bt t103 x10_2) > 122
             ·rw [if_pos c37] at H
              exact absurd H (by simp)
             ·rw [if_neg c37] at H
              have c37b0 : decide (122 < (bt t103 x10_2)) = false := decide_eq_false c37
              clear c37
              by_cases c40 : (bt t107 x10_2) = (((bt t103 x10_2) - 32) % 256)
              ·rw [if_pos c40] at H
               have c40b0 : ((bt t107 x10_2) == (((bt t103 x10_2) - 32) % 256)) = true := beq_iff_eq.mpr c40
               have c40b1 : ((bt t107 x10_2) != (((bt t103 x10_2) - 32) % 256)) = false := bne_eq_false_iff_eq.mpr c40
               clear c40
               have H' := Aside0.mk H
               clear H
               have p21 : 0 ≤ (x10_2 : Int) := of_decide_eq_true (by first | (with_reducible assumption) | assumption)
               have q21 : x10_2 < (t107.size : Int) := of_decide_eq_true (by first | (with_reducible assumption) | assumption)
               have hx21 := bt_at t107 x10_2
               replace p21 := eq_true p21
               replace q21 := eq_true q21
               have p23 : 0 ≤ (x10_2 : Int) := of_decide_eq_true (by first | (with_reducible assumption) | assumption)
               have q23 : x10_2 < (t103.size : Int) := of_decide_eq_true (by first | (with_reducible assumption) | assumption)
               have hx23 := bt_at t103 x10_2
               replace p23 := eq_true p23
               replace q23 := eq_true q23
               have p34 : 0 ≤ (x10_2 : Int) := of_decide_eq_true (by first | (with_reducible assumption) | assumption)
               have q34 : x10_2 < (t103.size : Int) := of_decide_eq_true (by first | (with_reducible assumption) | assumption)
               have hx34 := bt_at t103 x10_2
               replace p34 := eq_true p34
               replace q34 := eq_true q34
               have p36 : 0 ≤ (x10_2 : Int) := of_decide_eq_true (by first | (with_reducible assumption) | assumption)
               have q36 : x10_2 < (t103.size : Int) := of_decide_eq_true (by first | (with_reducible assumption) | assumption)
               have hx36 := bt_at t103 x10_2
               replace p36 := eq_true p36
               replace q36 := eq_true q36
               have p38 : 0 ≤ (x10_2 : Int) := of_decide_eq_true (by first | (with_reducible assumption) | assumption)
               have q38 : x10_2 < (t107.size : Int) := of_decide_eq_true (by first | (with_reducible assumption) | assumption)
               have hx38 := bt_at t107 x10_2
               replace p38 := eq_true p38
               replace q38 := eq_true q38
               have p39 : 0 ≤ (x10_2 : Int) := of_decide_eq_true (by first | (with_reducible assumption) | assumption)
               have q39 : x10_2 < (t103.size : Int) := of_decide_eq_true (by first | (with_reducible assumption) | assumption)
               have hx39 := bt_at t103 x10_2
               replace p39 := eq_true p39
               replace q39 := eq_true q39
               go_wp2
               repeat (go_quiet (fail); try go_wp2)
               go_roundg k2
               case measure => have := HJ9.out; have := HK2.out; omega
               case rel => exact ⟨(wrap64 (x10_2 + 1)), (by first | rfl | (simp; done) | (simp [*]; done)), H', ⟨by have := HJ9.out; have := HK2.out; omega⟩, ⟨by (with_reducible repeat (first | apply Kd.R_alloc | apply Kd.R_drewN | apply Kd.R_drew)); exact HO_7.out⟩, ⟨bl HB.out⟩⟩
              ·rw [if_neg c40] at H
               exact absurd H (by simp)
           ·rw [if_neg c33] at H
            exact absurd H (by simp)
        ·rw [if_neg c22] at H
         exact absurd H (by simp)
       ·rw [if_neg c20] at H
        exact absurd H (by simp)
      ·rw [if_neg c19] at H
       have c19b0 : decide (x10_2 < (t107.size : Int)) = false := decide_eq_false c19
       clear c19
       replace H := Option.bind_eq_some_iff.mp H
       obtain ⟨⟨t112, t113, t114⟩, A410, H⟩ := H
       replace H : ((drachmref08_Same.f k2 t112 t104).bind fun t117 => (if t114 = 0 then (if t101 = true then (if t117 = true then (some ((t107.size : Int) == (t103.size : Int))) else (none)) else (none)) else (if t101 = true then (if t114 = 14 then (if t113 = (t107.size : Int) then (some ((t112.length : Int) == 0)) else (none)) else (none)) else (none)))) = some r := H
       have A41 := Aside0.mk A410
       clear A410
       replace H := Option.bind_eq_some_iff.mp H
       obtain ⟨t117, A420, H⟩ := H
       replace H : (if t114 = 0 then (if t101 = true then (if t117 = true then (some ((t107.size : Int) == (t103.size : Int))) else (none)) else (none)) else (if t101 = true then (if t114 = 14 then (if t113 = (t107.size : Int) then (some ((t112.length : Int) == 0)) else (none)) else (none)) else (none))) = some r := H
       have A42 := Aside0.mk A420
       clear A420
       by_cases c43 : t114 = 0
       ·rw [if_pos c43] at H
        have c43b0 : (t114 == 0) = true := beq_iff_eq.mpr c43
        have c43b1 : (t114 != 0) = false := bne_eq_false_iff_eq.mpr c43
        clear c43
        by_cases c44 : t101 = true
        ·subst c44
         have H1 : (if t117 = true then (some ((t107.size : Int) == (t103.size : Int))) else (none)) = some r := by rw [if_pos rfl] at H; exact H
         clear H
         have H := H1
         clear H1
         by_cases c45 : t117 = true
         ·subst c45
          have H1 : (some ((t107.size : Int) == (t103.size : Int))) = some r := by rw [if_pos rfl] at H; exact H
          clear H
          have H := H1
          clear H1
          obtain rfl := Option.some.inj H
          go_wp2_with (first | (go_at_call 18; (with_reducible refine (lex_Lex.calls (wrap64 (1 + t102)) t103 t112 t113 t114 _ (Glob.use hG (by decide) (bl HB.out)) A41.out).mono ?_); rintro e w46 ⟨v115, rfl, ho0, hb⟩; have n0_ := Aside0.mk (Kd.R_elder' (by (with_reducible repeat (first | apply Kd.R_alloc | apply Kd.R_drewN | apply Kd.R_drew)); exact HO_7.out) (Kd.R_base ho0) hb); have n1_ := Aside0.mk (Kd.R_lower (Kd.R_new' ho0 (Kd.R_lt (by (with_reducible repeat (first | apply Kd.R_alloc | apply Kd.R_drewN | apply Kd.R_drew)); exact HO_7.out))) (below_size (bl HB.out))); have n2_ := sb HB hb; clear HO_7; clear HB; have HO_7 := n0_; have HO116 := n1_; have HB := n2_; clear n0_ n1_ n2_; (try clear hb); (try clear hb2); (try clear hk); (try clear hi); (try clear ho0); obtain ⟨Ao47, co47, eo47⟩ := Kd.R_slice HO116.out; subst eo47) | (go_at_call 16; (with_reducible refine (drachmref08_Same.calls k2 _ _ t112 _ _ t104 true _ ?side1 ?side2 ?side3 ?side4 A42.out).mono ?_); (case side1 => repeat (first | exact (Kd.R_reads' HO116.out).2.2 | (with_reducible refine Kd.C_alloc ?_ _) | (with_reducible refine Kd.C_drewN ?_ _) | (with_reducible refine Kd.C_drew ?_))); (case side2 => exact (Kd.R_reads' HO116.out).2.1); (case side3 => repeat (first | exact (Kd.R_reads' HO_7.out).2.2 | (with_reducible refine Kd.C_alloc ?_ _) | (with_reducible refine Kd.C_drewN ?_ _) | (with_reducible refine Kd.C_drew ?_))); (case side4 => exact (Kd.R_reads' HO_7.out).2.1); rintro e w' ⟨rfl, ⟨nd, rfl⟩⟩; (try first | exact ⟨rfl, _, World.drewN_drewN _ _ _⟩ | exact ⟨rfl, _, Eq.trans (World.drewN_drewN _ _ _) (congrArg (World.drewN _) (Nat.add_assoc _ _ _))⟩)))
          repeat (go_quiet (first | (go_at_call 18; (with_reducible refine (lex_Lex.calls (wrap64 (1 + t102)) t103 t112 t113 t114 _ (Glob.use hG (by decide) (bl HB.out)) A41.out).mono ?_); rintro e w46 ⟨v115, rfl, ho0, hb⟩; have n0_ := Aside0.mk (Kd.R_elder' (by (with_reducible repeat (first | apply Kd.R_alloc | apply Kd.R_drewN | apply Kd.R_drew)); exact HO_7.out) (Kd.R_base ho0) hb); have n1_ := Aside0.mk (Kd.R_lower (Kd.R_new' ho0 (Kd.R_lt (by (with_reducible repeat (first | apply Kd.R_alloc | apply Kd.R_drewN | apply Kd.R_drew)); exact HO_7.out))) (below_size (bl HB.out))); have n2_ := sb HB hb; clear HO_7; clear HB; have HO_7 := n0_; have HO116 := n1_; have HB := n2_; clear n0_ n1_ n2_; (try clear hb); (try clear hb2); (try clear hk); (try clear hi); (try clear ho0); obtain ⟨Ao47, co47, eo47⟩ := Kd.R_slice HO116.out; subst eo47) | (go_at_call 16; (with_reducible refine (drachmref08_Same.calls k2 _ _ t112 _ _ t104 true _ ?side1 ?side2 ?side3 ?side4 A42.out).mono ?_); (case side1 => repeat (first | exact (Kd.R_reads' HO116.out).2.2 | (with_reducible refine Kd.C_alloc ?_ _) | (with_reducible refine Kd.C_drewN ?_ _) | (with_reducible refine Kd.C_drew ?_))); (case side2 => exact (Kd.R_reads' HO116.out).2.1); (case side3 => repeat (first | exact (Kd.R_reads' HO_7.out).2.2 | (with_reducible refine Kd.C_alloc ?_ _) | (with_reducible refine Kd.C_drewN ?_ _) | (with_reducible refine Kd.C_drew ?_))); (case side4 => exact (Kd.R_reads' HO_7.out).2.1); rintro e w' ⟨rfl, ⟨nd, rfl⟩⟩; (try first | exact ⟨rfl, _, World.drewN_drewN _ _ _⟩ | exact ⟨rfl, _, Eq.trans (World.drewN_drewN _ _ _) (congrArg (World.drewN _) (Nat.add_assoc _ _ _))⟩))); try go_wp2_with (first | (go_at_call 18; (with_reducible refine (lex_Lex.calls (wrap64 (1 + t102)) t103 t112 t113 t114 _ (Glob.use hG (by decide) (bl HB.out)) A41.out).mono ?_); rintro e w46 ⟨v115, rfl, ho0, hb⟩; have n0_ := Aside0.mk (Kd.R_elder' (by (with_reducible repeat (first | apply Kd.R_alloc | apply Kd.R_drewN | apply Kd.R_drew)); exact HO_7.out) (Kd.R_base ho0) hb); have n1_ := Aside0.mk (Kd.R_lower (Kd.R_new' ho0 (Kd.R_lt (by (with_reducible repeat (first | apply Kd.R_alloc | apply Kd.R_drewN | apply Kd.R_drew)); exact HO_7.out))) (below_size (bl HB.out))); have n2_ := sb HB hb; clear HO_7; clear HB; have HO_7 := n0_; have HO116 := n1_; have HB := n2_; clear n0_ n1_ n2_; (try clear hb); (try clear hb2); (try clear hk); (try clear hi); (try clear ho0); obtain ⟨Ao47, co47, eo47⟩ := Kd.R_slice HO116.out; subst eo47) | (go_at_call 16; (with_reducible refine (drachmref08_Same.calls k2 _ _ t112 _ _ t104 true _ ?side1 ?side2 ?side3 ?side4 A42.out).mono ?_); (case side1 => repeat (first | exact (Kd.R_reads' HO116.out).2.2 | (with_reducible refine Kd.C_alloc ?_ _) | (with_reducible refine Kd.C_drewN ?_ _) | (with_reducible refine Kd.C_drew ?_))); (case side2 => exact (Kd.R_reads' HO116.out).2.1); (case side3 => repeat (first | exact (Kd.R_reads' HO_7.out).2.2 | (with_reducible refine Kd.C_alloc ?_ _) | (with_reducible refine Kd.C_drewN ?_ _) | (with_reducible refine Kd.C_drew ?_))); (case side4 => exact (Kd.R_reads' HO_7.out).2.1); rintro e w' ⟨rfl, ⟨nd, rfl⟩⟩; (try first | exact ⟨rfl, _, World.drewN_drewN _ _ _⟩ | exact ⟨rfl, _, Eq.trans (World.drewN_drewN _ _ _) (congrArg (World.drewN _) (Nat.add_assoc _ _ _))⟩))))
          go_ret
          exact ⟨by first | rfl | (simp [errW_none, errW_some] <;> rfl) | (simp [*, errW_none, errW_some] <;> rfl), bl HB.out⟩
         ·replace c45 := Bool.eq_false_iff.mpr c45
          subst c45
          have H1 : (none) = some r := by rw [if_neg (show ¬ (false = true) by decide)] at H; exact H
          clear H
          have H := H1
          clear H1
          exact absurd H (by simp)
        ·replace c44 := Bool.eq_false_iff.mpr c44
         subst c44
         have H1 : (none) = some r := by rw [if_neg (show ¬ (false = true) by decide)] at H; exact H
         clear H
         have H := H1
         clear H1
         exact absurd H (by simp)
       ·rw [if_neg c43] at H
        have c43b0 : (t114 == 0) = false := beq_eq_false_iff_ne.mpr c43
        have c43b1 : (t114 != 0) = true := bne_iff_ne.mpr c43
        by_cases c48 : t101 = true
        ·subst c48
         have H1 : (if t114 = 14 then (if t113 = (t107.size : Int) then (some ((t112.length : Int) == 0)) else (none)) else (none)) = some r := by rw [if_pos rfl] at H; exact H
         clear H
         have H := H1
         clear H1
         by_cases c49 : t114 = 14
         ·rw [if_pos c49] at H
          have c49b0 : (t114 == 14) = true := beq_iff_eq.mpr c49
          have c49b1 : (t114 != 14) = false := bne_eq_false_iff_eq.mpr c49
          clear c49
          by_cases c50 : t113 = (t107.size : Int)
          ·rw [if_pos c50] at H
           have c50b0 : (t113 == (t107.size : Int)) = true := beq_iff_eq.mpr c50
           have c50b1 : (t113 != (t107.size : Int)) = false := bne_eq_false_iff_eq.mpr c50
           clear c50
           obtain rfl := Option.some.inj H
           go_wp2_with (first | (go_at_call 18; (with_reducible refine (lex_Lex.calls (wrap64 (1 + t102)) t103 t112 t113 t114 _ (Glob.use hG (by decide) (bl HB.out)) A41.out).mono ?_); rintro e w51 ⟨v115, rfl, ho0, hb⟩; have n0_ := Aside0.mk (Kd.R_elder' (by (with_reducible repeat (first | apply Kd.R_alloc | apply Kd.R_drewN | apply Kd.R_drew)); exact HO_7.out) (Kd.R_base ho0) hb); have n1_ := Aside0.mk (Kd.R_lower (Kd.R_new' ho0 (Kd.R_lt (by (with_reducible repeat (first | apply Kd.R_alloc | apply Kd.R_drewN | apply Kd.R_drew)); exact HO_7.out))) (below_size (bl HB.out))); have n2_ := sb HB hb; clear HO_7; clear HB; have HO_7 := n0_; have HO116 := n1_; have HB := n2_; clear n0_ n1_ n2_; (try clear hb); (try clear hb2); (try clear hk); (try clear hi); (try clear ho0); obtain ⟨Ao52, co52, eo52⟩ := Kd.R_slice HO116.out; subst eo52) | (go_at_call 16; (with_reducible refine (drachmref08_Same.calls k2 _ _ t112 _ _ t104 t117 _ ?side1 ?side2 ?side3 ?side4 A42.out).mono ?_); (case side1 => repeat (first | exact (Kd.R_reads' HO116.out).2.2 | (with_reducible refine Kd.C_alloc ?_ _) | (with_reducible refine Kd.C_drewN ?_ _) | (with_reducible refine Kd.C_drew ?_))); (case side2 => exact (Kd.R_reads' HO116.out).2.1); (case side3 => repeat (first | exact (Kd.R_reads' HO_7.out).2.2 | (with_reducible refine Kd.C_alloc ?_ _) | (with_reducible refine Kd.C_drewN ?_ _) | (with_reducible refine Kd.C_drew ?_))); (case side4 => exact (Kd.R_reads' HO_7.out).2.1); rintro e w' ⟨rfl, ⟨nd, rfl⟩⟩; (try first | exact ⟨rfl, _, World.drewN_drewN _ _ _⟩ | exact ⟨rfl, _, Eq.trans (World.drewN_drewN _ _ _) (congrArg (World.drewN _) (Nat.add_assoc _ _ _))⟩)))
           repeat (go_quiet (first | (go_at_call 18; (with_reducible refine (lex_Lex.calls (wrap64 (1 + t102)) t103 t112 t113 t114 _ (Glob.use hG (by decide) (bl HB.out)) A41.out).mono ?_); rintro e w51 ⟨v115, rfl, ho0, hb⟩; have n0_ := Aside0.mk (Kd.R_elder' (by (with_reducible repeat (first | apply Kd.R_alloc | apply Kd.R_drewN | apply Kd.R_drew)); exact HO_7.out) (Kd.R_base ho0) hb); have n1_ := Aside0.mk (Kd.R_lower (Kd.R_new' ho0 (Kd.R_lt (by (with_reducible repeat (first | apply Kd.R_alloc | apply Kd.R_drewN | apply Kd.R_drew)); exact HO_7.out))) (below_size (bl HB.out))); have n2_ := sb HB hb; clear HO_7; clear HB; have HO_7 := n0_; have HO116 := n1_; have HB := n2_; clear n0_ n1_ n2_; (try clear hb); (try clear hb2); (try clear hk); (try clear hi); (try clear ho0); obtain ⟨Ao52, co52, eo52⟩ := Kd.R_slice HO116.out; subst eo52) | (go_at_call 16; (with_reducible refine (drachmref08_Same.calls k2 _ _ t112 _ _ t104 t117 _ ?side1 ?side2 ?side3 ?side4 A42.out).mono ?_); (case side1 => repeat (first | exact (Kd.R_reads' HO116.out).2.2 | (with_reducible refine Kd.C_alloc ?_ _) | (with_reducible refine Kd.C_drewN ?_ _) | (with_reducible refine Kd.C_drew ?_))); (case side2 => exact (Kd.R_reads' HO116.out).2.1); (case side3 => repeat (first | exact (Kd.R_reads' HO_7.out).2.2 | (with_reducible refine Kd.C_alloc ?_ _) | (with_reducible refine Kd.C_drewN ?_ _) | (with_reducible refine Kd.C_drew ?_))); (case side4 => exact (Kd.R_reads' HO_7.out).2.1); rintro e w' ⟨rfl, ⟨nd, rfl⟩⟩; (try first | exact ⟨rfl, _, World.drewN_drewN _ _ _⟩ | exact ⟨rfl, _, Eq.trans (World.drewN_drewN _ _ _) (congrArg (World.drewN _) (Nat.add_assoc _ _ _))⟩))); try go_wp2_with (first | (go_at_call 18; (with_reducible refine (lex_Lex.calls (wrap64 (1 + t102)) t103 t112 t113 t114 _ (Glob.use hG (by decide) (bl HB.out)) A41.out).mono ?_); rintro e w51 ⟨v115, rfl, ho0, hb⟩; have n0_ := Aside0.mk (Kd.R_elder' (by (with_reducible repeat (first | apply Kd.R_alloc | apply Kd.R_drewN | apply Kd.R_drew)); exact HO_7.out) (Kd.R_base ho0) hb); have n1_ := Aside0.mk (Kd.R_lower (Kd.R_new' ho0 (Kd.R_lt (by (with_reducible repeat (first | apply Kd.R_alloc | apply Kd.R_drewN | apply Kd.R_drew)); exact HO_7.out))) (below_size (bl HB.out))); have n2_ := sb HB hb; clear HO_7; clear HB; have HO_7 := n0_; have HO116 := n1_; have HB := n2_; clear n0_ n1_ n2_; (try clear hb); (try clear hb2); (try clear hk); (try clear hi); (try clear ho0); obtain ⟨Ao52, co52, eo52⟩ := Kd.R_slice HO116.out; subst eo52) | (go_at_call 16; (with_reducible refine (drachmref08_Same.calls k2 _ _ t112 _ _ t104 t117 _ ?side1 ?side2 ?side3 ?side4 A42.out).mono ?_); (case side1 => repeat (first | exact (Kd.R_reads' HO116.out).2.2 | (with_reducible refine Kd.C_alloc ?_ _) | (with_reducible refine Kd.C_drewN ?_ _) | (with_reducible refine Kd.C_drew ?_))); (case side2 => exact (Kd.R_reads' HO116.out).2.1); (case side3 => repeat (first | exact (Kd.R_reads' HO_7.out).2.2 | (with_reducible refine Kd.C_alloc ?_ _) | (with_reducible refine Kd.C_drewN ?_ _) | (with_reducible refine Kd.C_drew ?_))); (case side4 => exact (Kd.R_reads' HO_7.out).2.1); rintro e w' ⟨rfl, ⟨nd, rfl⟩⟩; (try first | exact ⟨rfl, _, World.drewN_drewN _ _ _⟩ | exact ⟨rfl, _, Eq.trans (World.drewN_drewN _ _ _) (congrArg (World.drewN _) (Nat.add_assoc _ _ _))⟩))))
           go_ret
           exact ⟨by first | rfl | (simp [errW_none, errW_some] <;> rfl) | (simp [*, errW_none, errW_some] <;> rfl), bl HB.out⟩
          ·rw [if_neg c50] at H
           exact absurd H (by simp)
         ·rw [if_neg c49] at H
          exact absurd H (by simp)
        ·replace c48 := Bool.eq_false_iff.mpr c48
         subst c48
         have H1 : (none) = some r := by rw [if_neg (show ¬ (false = true) by decide)] at H; exact H
         clear H
         have H := H1
         clear H1
         exact absurd H (by simp)

/-- THE ONE PURE STATEMENT of drachmlaw08_LexBack: yours. -/
def drachmlaw08_LexBack.Pure : Prop := ∀ (a0 : Int) (a1 : ByteArray), (Lit.int .i64 a0).wf = true → a1.size ≤ 140737488351232 → ∃ k, drachmlaw08_LexBack.f k a0 a1 = some true
theorem drachmlaw08_LexBack.walk (P : drachmlaw08_LexBack.Pure) (a0 : Int) (a1 : ByteArray) (w : World) (hG : Glob [0, 2] w) (w0 : (Lit.int .i64 a0).wf = true) (w1 : a1.size ≤ 140737488351232) :
  Calls Tryd.prog 9 #[.int .i64 a0, .string a1] w fun e w' => e = .returned (.bool true) ∧ Below w.heap.size w w' := by
 obtain ⟨k, h⟩ := P a0 a1 w0 w1
 refine (drachmlaw08_LexBack.calls k a0 a1 true w hG h).mono ?_
 rintro e w' ⟨rfl, hd⟩
 exact ⟨rfl, hd⟩

end Go.Proofs.YtimkhjbnkcgekaaDoor.PLexBack
