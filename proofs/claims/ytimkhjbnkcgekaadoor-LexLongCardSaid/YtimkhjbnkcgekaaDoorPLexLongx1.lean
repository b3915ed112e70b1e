/- Printed by a program of this session (wip/tools/prt.py) out of the translation: plain functions, and that the calls come to just them. No conditions beyond those that stand in each theorem. -/
import Derived.Test.YtimkhjbnkcgekaaDoorGlob
import Derived.Test.YtimkhjbnkcgekaaDoorPLexLongx0
namespace Go.Proofs.YtimkhjbnkcgekaaDoor.PLexLong
open Go.Proofs.YtimkhjbnkcgekaaDoor.Sq Go.RowKit Go.Proofs.YtimkhjbnkcgekaaDoorW.PrintWords Go.Proofs.YtimkhjbnkcgekaaDoorW.PrintLast Go.Proofs.YtimkhjbnkcgekaaDoorW.PrintMore Go.Proofs.YtimkhjbnkcgekaaDoor.PB Go.Proofs.YtimkhjbnkcgekaaDoor.PC Go.Proofs.YtimkhjbnkcgekaaDoor.PQ
attribute [local go_sem] max2_int min2_int max_two min_two max_three min_three max_four min_four   -- for this text's walks alone
set_option linter.unusedVariables false
set_option linter.unusedSimpArgs false

/-! ### drachmlaw08_LexLong: function 7 -/
def drachmlaw08_LexLong.l0 : Nat → Bool → Int → Int → ByteArray → Int → Option (Bool)
 | 0, _, _, _, _, _ => none
 | k + 1, x5, x6, x7, x8, x9 => if x9 < x7 then (if x8.size + 1 ≤ 9223372036854775807 then (drachmlaw08_LexLong.l0 k x5 x6 x7 (x8 ++ (⟨#[77]⟩ : ByteArray)) (wrap64 (x9 + 1))) else (none)) else ((lex_Lex.f x6 x8).bind fun bt104 => (if x7 > 255 then (if x5 = true then (if bt104.2.2 = 12 then (if (bt104.1.length : Int) = 0 then (some (bt104.2.1 == 0)) else (none)) else (none)) else (none)) else (if x5 = true then (if bt104.2.2 = 0 then (if bt104.2.1 = x7 then (some ((bt104.1.length : Int) == (mn x7 1))) else (none)) else (none)) else (none))))
def drachmlaw08_LexLong.f (k : Nat) (a0 : Int) (a1 : Int) : Option (Bool) := (drachmlaw08_awake.f).bind fun t101 => ((drachmlaw08_rest.f a0 5).bind fun t102 => ((drachmlaw08_rest.f a1 301).bind fun t103 => (drachmlaw08_LexLong.l0 k t101 (wrap64 (1 + t102)) t103 (⟨#[]⟩ : ByteArray) 0)))
theorem drachmlaw08_LexLong.mono_l : ∀ k, (∀ y0 y1 y2 y3 y4, LeO (drachmlaw08_LexLong.l0 k y0 y1 y2 y3 y4) (drachmlaw08_LexLong.l0 (k + 1) y0 y1 y2 y3 y4))
 | 0 => fun _ _ _ _ _ r h => by simp [drachmlaw08_LexLong.l0] at h
 | k + 1 => by
  have ih0 := drachmlaw08_LexLong.mono_l k
  ·intro y0 y1 y2 y3 y4
   unfold drachmlaw08_LexLong.l0
   repeat' first
   | (with_reducible exact ih0 _ _ _ _ _)
   | (with_reducible exact LeO.refl _)
   | (with_reducible exact LeO.none _)
   | (with_reducible refine LeO.ite ?_ ?_)
   | (with_reducible refine LeO.bind ?_ (fun _ => ?_))
   | exact ih0 _ _ _ _ _
   | exact LeO.none _
   | refine LeO.ite ?_ ?_
   | refine LeO.bind ?_ (fun _ => ?_)
theorem drachmlaw08_LexLong.mono : ∀ a0 a1 k, LeO (drachmlaw08_LexLong.f k a0 a1) (drachmlaw08_LexLong.f (k + 1) a0 a1) := by
 intro a0 a1 k
 have ih0 := drachmlaw08_LexLong.mono_l k
 unfold drachmlaw08_LexLong.f
 repeat' first
   | (with_reducible exact ih0 _ _ _ _ _)
   | (with_reducible exact LeO.refl _)
   | (with_reducible exact LeO.none _)
   | (with_reducible refine LeO.ite ?_ ?_)
   | (with_reducible refine LeO.bind ?_ (fun _ => ?_))
   | exact ih0 _ _ _ _ _
   | exact LeO.none _
   | refine LeO.ite ?_ ?_
   | refine LeO.bind ?_ (fun _ => ?_)
set_option maxHeartbeats 8000000 in
set_option maxRecDepth 100000 in
theorem drachmlaw08_LexLong.calls (k : Nat) (a0 : Int) (a1 : Int) (r : Bool) (w : World) (hG : Glob [0, 2] w) (h : drachmlaw08_LexLong.f k a0 a1 = some r) :
  Calls Tryd.prog 7 #[.int .i64 a0, .int .i64 a1] w fun e w' => e = .returned (.bool r) ∧ Below w.heap.size w w' := by
 have HB := Aside0.mk (Below.refl w.heap.size w)
 have H : ((drachmlaw08_awake.f).bind fun t101 => ((drachmlaw08_rest.f a0 5).bind fun t102 => ((drachmlaw08_rest.f a1 301).bind fun t103 => (drachmlaw08_LexLong.l0 k t101 (wrap64 (1 + t102)) t103 (⟨#[]⟩ : ByteArray) 0)))) = some r := h
 clear h
 replace H := Option.bind_eq_some_iff.mp H
 obtain ⟨t101, A30, H⟩ := H
 replace H : ((drachmlaw08_rest.f a0 5).bind fun t102 => ((drachmlaw08_rest.f a1 301).bind fun t103 => (drachmlaw08_LexLong.l0 k t101 (wrap64 (1 + t102)) t103 (⟨#[]⟩ : ByteArray) 0))) = some r := H
 have A3 := Aside0.mk A30
 clear A30
 replace H := Option.bind_eq_some_iff.mp H
 obtain ⟨t102, A40, H⟩ := H
 replace H : ((drachmlaw08_rest.f a1 301).bind fun t103 => (drachmlaw08_LexLong.l0 k t101 (wrap64 (1 + t102)) t103 (⟨#[]⟩ : ByteArray) 0)) = some r := H
 have A4 := Aside0.mk A40
 clear A40
 replace H := Option.bind_eq_some_iff.mp H
 obtain ⟨t103, A50, H⟩ := H
 replace H : (drachmlaw08_LexLong.l0 k t101 (wrap64 (1 + t102)) t103 (⟨#[]⟩ : ByteArray) 0) = some r := H
 have A5 := Aside0.mk A50
 clear A50
 have H' := Aside0.mk H
 clear H
 go_enter Tryd.func7, Tryd.ntmps7
 go_wp2_with (first | (go_at_call 10; (with_reducible refine (drachmlaw08_awake.calls  t101 _ (Glob.use hG (by decide) (bl HB.out)) A3.out).mono ?_); rintro e w6 ⟨rfl, hb⟩; replace HB := sb HB hb; (try clear hb); (try clear hb2); (try clear hk); (try clear hi)) | (go_at_call 12; (with_reducible refine (drachmlaw08_rest.calls a0 5 t102 _ A4.out).mono ?_); rintro e w' ⟨rfl, ⟨nd, rfl⟩⟩) | (go_at_call 12; (with_reducible refine (drachmlaw08_rest.calls a1 301 t103 _ A5.out).mono ?_); rintro e w' ⟨rfl, ⟨nd, rfl⟩⟩))
 go_loopg [8, 9] k (fun kq v8 v9 w' => ∃ (x8_1 : ByteArray) (x9_1 : Int), v8 = .string x8_1 ∧ v9 = .int .i64 x9_1 ∧ Aside0 (drachmlaw08_LexLong.l0 kq t101 (wrap64 (1 + t102)) t103 x8_1 x9_1 = some r) ∧ Aside0 (kq ≤ k) ∧ Aside0 (Below w.heap.size w w'))
 case atStart => exact ⟨((⟨#[]⟩ : ByteArray)), (0), (by first | rfl | (simp; done) | (simp [*]; done)), (by first | rfl | (simp; done) | (simp [*]; done)), H', ⟨Nat.le_refl _⟩, ⟨bl HB.out⟩⟩
 case round =>
  clear H'
  try clear c1
  try clear p2
  try clear p6
  obtain ⟨x8_1, x9_1, rfl, rfl, HA, HK1, HB⟩ := hrel
  cases gk with
  | zero => exact absurd HA.out (by simp [drachmlaw08_LexLong.l0])
  | succ k1 =>
   have H := HA.out
   clear HA
   simp only [drachmlaw08_LexLong.l0] at H
   by_cases c7 : x9_1 < t103
   ·rw [if_pos c7] at H
    have c7b0 : decide (x9_1 < t103) = true := decide_eq_true c7
    clear c7
    by_cases c8 : x8_1.size + 1 ≤ 9223372036854775807
    ·rw [if_pos c8] at H
     have c8b0 := eq_true c8
     have c8b1 : decide (x8_1.size + 1 ≤ 9223372036854775807) = true := decide_eq_true c8
     try have c8b2 : (9223372036854775807 < x8_1.size + 1) = False := eq_false (Nat.not_lt.2 c8)
     have H' := Aside0.mk H
     clear H
     go_wp2
     go_roundg k1
     case measure => have := HK1.out; omega
     case rel => exact ⟨(x8_1 ++ (⟨#[77]⟩ : ByteArray)), (wrap64 (x9_1 + 1)), (by first | rfl | (simp; done) | (simp [*]; done)), (by first | rfl | (simp; done) | (simp [*]; done)), H', ⟨by have := HK1.out; omega⟩, ⟨bl HB.out⟩⟩
    ·rw [if_neg c8] at H
     exact absurd H (by simp)
   ·rw [if_neg c7] at H
    have c7b0 : decide (x9_1 < t103) = false := decide_eq_false c7
    clear c7
    replace H := Option.bind_eq_some_iff.mp H
    obtain ⟨⟨t104, t105, t106⟩, A90, H⟩ := H
    replace H : (if t103 > 255 then (if t101 = true then (if t106 = 12 then (if (t104.length : Int) = 0 then (some (t105 == 0)) else (none)) else (none)) else (none)) else (if t101 = true then (if t106 = 0 then (if t105 = t103 then (some ((t104.length : Int) == (mn t103 1))) else (none)) else (none)) else (none))) = some r := H
    have A9 := Aside0.mk A90
    clear A90
    by_cases c10 : t103 > 255
    ·rw [if_pos c10] at H
     have c10b0 : decide (255 < t103) = true := decide_eq_true c10
     clear c10
     by_cases c11 : t101 = true
     ·subst c11
      have H1 : (if t106 = 12 then (if (t104.length : Int) = 0 then (some (t105 == 0)) else (none)) else (none)) = some r := by rw [if_pos rfl] at H; exact H
      clear H
      have H := H1
      clear H1
      by_cases c12 : t106 = 12
      ·rw [if_pos c12] at H
       have c12b0 : (t106 == 12) = true := beq_iff_eq.mpr c12
       have c12b1 : (t106 != 12) = false := bne_eq_false_iff_eq.mpr c12
       clear c12
       by_cases c13 : (t104.length : Int) = 0
       ·rw [if_pos c13] at H
        have c13b0 : ((t104.length : Int) == 0) = true := beq_iff_eq.mpr c13
        have c13b1 : ((t104.length : Int) != 0) = false := bne_eq_false_iff_eq.mpr c13
        clear c13
        obtain rfl := Option.some.inj H
        go_wp2_with (first | (go_at_call 18; (with_reducible refine (lex_Lex.calls (wrap64 (1 + t102)) x8_1 t104 t105 t106 _ (Glob.use hG (by decide) (bl HB.out)) A9.out).mono ?_); rintro e w14 ⟨v107, rfl, ho0, hb⟩; have HO108 := Aside0.mk (Kd.R_lower ho0 (below_size (bl HB.out))); replace HB := sb HB hb; (try clear hb); (try clear hb2); (try clear hk); (try clear hi); (try clear ho0); obtain ⟨Ao15, co15, eo15⟩ := Kd.R_slice HO108.out; subst eo15))
        go_ret
        exact ⟨by first | rfl | (simp [errW_none, errW_some] <;> rfl) | (simp [*, errW_none, errW_some] <;> rfl), bl HB.out⟩
       ·rw [if_neg c13] at H
        exact absurd H (by simp)
      ·rw [if_neg c12] at H
       exact absurd H (by simp)
     ·replace c11 := Bool.eq_false_iff.mpr c11
      subst c11
      have H1 : (none) = some r := by rw [if_neg (show ¬ (false = true) by decide)] at H; exact H
      clear H
      have H := H1
      clear H1
      exact absurd H (by simp)
    ·rw [if_neg c10] at H
     have c10b0 : decide (255 < t103) = false := decide_eq_false c10
     clear c10
     by_cases c16 : t101 = true
     ·subst c16
      have H1 : (if t106 = 0 then (if t105 = t103 then (some ((t104.length : Int) == (mn t103 1))) else (none)) else (none)) = some r := by rw [if_pos rfl] at H; exact H
      clear H
      have H := H1
      clear H1
      by_cases c17 : t106 = 0
      ·rw [if_pos c17] at H
       have c17b0 : (t106 == 0) = true := beq_iff_eq.mpr c17
       have c17b1 : (t106 != 0) = false := bne_eq_false_iff_eq.mpr c17
       clear c17
       by_cases c18 : t105 = t103
       ·rw [if_pos c18] at H
        have c18b0 : (t105 == t103) = true := beq_iff_eq.mpr c18
        have c18b1 : (t105 != t103) = false := bne_eq_false_iff_eq.mpr c18
        clear c18
        obtain ⟨ji19, hji19⟩ : ∃ j_ : Int, (mn t103 1) = j_ := ⟨_, rfl⟩
        replace H : (some ((t104.length : Int) == (ji19))) = some r := by first | (rw [hji19] at H; exact H) | (simp only [hji19] at H ⊢; exact H)
        (try rw [hji19] at A9)
        have hji19_ : (if 1 < t103 then 1 else t103) = ji19 := hji19
        obtain rfl := Option.some.inj H
        go_wp2_with (first | (go_at_call 18; (with_reducible refine (lex_Lex.calls (wrap64 (1 + t102)) x8_1 t104 t105 t106 _ (Glob.use hG (by decide) (bl HB.out)) A9.out).mono ?_); rintro e w20 ⟨v107, rfl, ho0, hb⟩; have HO108 := Aside0.mk (Kd.R_lower ho0 (below_size (bl HB.out))); replace HB := sb HB hb; (try clear hb); (try clear hb2); (try clear hk); (try clear hi); (try clear ho0); obtain ⟨Ao21, co21, eo21⟩ := Kd.R_slice HO108.out; subst eo21))
        go_ret
        exact ⟨by first | rfl | (simp [errW_none, errW_some] <;> rfl) | (simp only [← hji19]; first | rfl | (simp [errW_none, errW_some] <;> rfl)) | (simp [*, errW_none, errW_some] <;> rfl), bl HB.out⟩
       ·rw [if_neg c18] at H
        exact absurd H (by simp)
      ·rw [if_neg c17] at H
       exact absurd H (by simp)
     ·replace c16 := Bool.eq_false_iff.mpr c16
      subst c16
      have H1 : (none) = some r := by rw [if_neg (show ¬ (false = true) by decide)] at H; exact H
      clear H
      have H := H1
      clear H1
      exact absurd H (by simp)

/-- THE ONE PURE STATEMENT of drachmlaw08_LexLong: yours. -/
def drachmlaw08_LexLong.Pure : Prop := ∀ (a0 : Int) (a1 : Int), (Lit.int .i64 a0).wf = true → (Lit.int .i64 a1).wf = true → ∃ k, drachmlaw08_LexLong.f k a0 a1 = some true
theorem drachmlaw08_LexLong.walk (P : drachmlaw08_LexLong.Pure) (a0 : Int) (a1 : Int) (w : World) (hG : Glob [0, 2] w) (w0 : (Lit.int .i64 a0).wf = true) (w1 : (Lit.int .i64 a1).wf = true) :
  Calls Tryd.prog 7 #[.int .i64 a0, .int .i64 a1] w fun e w' => e = .returned (.bool true) ∧ Below w.heap.size w w' := by
 obtain ⟨k, h⟩ := P a0 a1 w0 w1
 refine (drachmlaw08_LexLong.calls k a0 a1 true w hG h).mono ?_
 rintro e w' ⟨rfl, hd⟩
 exact ⟨rfl, hd⟩

end Go.Proofs.YtimkhjbnkcgekaaDoor.PLexLong
