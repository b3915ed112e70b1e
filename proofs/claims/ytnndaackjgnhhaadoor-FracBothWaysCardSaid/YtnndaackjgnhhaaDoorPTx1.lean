/- Printed by a program of this session (wip/tools/prt.py) out of the translation: plain functions, and that the calls come to just them. No conditions beyond those that stand in each theorem. -/
import Derived.Test.YtnndaackjgnhhaaDoorGlob
import Derived.Test.YtnndaackjgnhhaaDoorPTx0
namespace Go.Proofs.YtnndaackjgnhhaaDoor.PT
open Go.Proofs.YtnndaackjgnhhaaDoor.Sq Go.RowKit Go.Proofs.YtnndaackjgnhhaaDoorW.PrintWords Go.Proofs.YtnndaackjgnhhaaDoorW.PrintLast Go.Proofs.YtnndaackjgnhhaaDoorW.PrintMore Go.Proofs.YtnndaackjgnhhaaDoor.PB
attribute [local go_sem] max2_int min2_int max_two min_two max_three min_three max_four min_four   -- for this text's walks alone
set_option linter.unusedVariables false
set_option linter.unusedSimpArgs false

/-! ### frac_Text: function 22 -/
def frac_Text.f (k : Nat) (a0_0 : Int) (a0_1 : Int) (a0_2 : Int) : Option (ByteArray) := (frac_Right.f k a0_0 a0_1 a0_2).bind fun t102 => (if t102 = true then ((strconv_FormatInt.f a0_0 10).bind fun t103 => (if a0_1 = 1 then (if a0_2 = 0 then (some t103) else ((strconv_Itoa.f a0_2).bind fun t104 => (if 1 + t104.size ≤ 9223372036854775807 then (if t103.size + ((⟨#[101]⟩ : ByteArray) ++ t104).size ≤ 9223372036854775807 then (some (t103 ++ ((⟨#[101]⟩ : ByteArray) ++ t104))) else (none)) else (none)))) else ((strconv_FormatInt.f a0_1 10).bind fun t105 => (if 1 + t105.size ≤ 9223372036854775807 then (if t103.size + ((⟨#[47]⟩ : ByteArray) ++ t105).size ≤ 9223372036854775807 then (if a0_2 = 0 then (some (t103 ++ ((⟨#[47]⟩ : ByteArray) ++ t105))) else ((strconv_Itoa.f a0_2).bind fun t106 => (if 1 + t106.size ≤ 9223372036854775807 then (if (t103 ++ ((⟨#[47]⟩ : ByteArray) ++ t105)).size + ((⟨#[101]⟩ : ByteArray) ++ t106).size ≤ 9223372036854775807 then (some ((t103 ++ ((⟨#[47]⟩ : ByteArray) ++ t105)) ++ ((⟨#[101]⟩ : ByteArray) ++ t106))) else (none)) else (none)))) else (none)) else (none))))) else (some (⟨#[]⟩ : ByteArray)))
theorem frac_Text.mono : ∀ a0 a1 a2 k, LeO (frac_Text.f k a0 a1 a2) (frac_Text.f (k + 1) a0 a1 a2) := by
 intro a0 a1 a2 k
 unfold frac_Text.f
 repeat' first
   | (with_reducible exact frac_Right.mono _ _ _ _)
   | (with_reducible exact LeO.refl _)
   | (with_reducible exact LeO.none _)
   | (with_reducible refine LeO.ite ?_ ?_)
   | (with_reducible refine LeO.bind ?_ (fun _ => ?_))
   | exact frac_Right.mono _ _ _ _
   | exact LeO.none _
   | refine LeO.ite ?_ ?_
   | refine LeO.bind ?_ (fun _ => ?_)
set_option maxHeartbeats 8000000 in
set_option maxRecDepth 100000 in
theorem frac_Text.calls (k : Nat) (a0_0 : Int) (a0_1 : Int) (a0_2 : Int) (r : ByteArray) (w : World) (hG : Glob [5] w) (h : frac_Text.f k a0_0 a0_1 a0_2 = some r) :
  Calls Tryd.prog 22 #[.agg #[.int .i64 a0_0, .int .i64 a0_1, .int .i64 a0_2]] w fun e w' => e = .returned (.string r) ∧ Below w.heap.size w w' := by
 have hu24 := Tryd.underlying24
 have HB := Aside0.mk (Below.refl w.heap.size w)
 have H : ((frac_Right.f k a0_0 a0_1 a0_2).bind fun t102 => (if t102 = true then ((strconv_FormatInt.f a0_0 10).bind fun t103 => (if a0_1 = 1 then (if a0_2 = 0 then (some t103) else ((strconv_Itoa.f a0_2).bind fun t104 => (if 1 + t104.size ≤ 9223372036854775807 then (if t103.size + ((⟨#[101]⟩ : ByteArray) ++ t104).size ≤ 9223372036854775807 then (some (t103 ++ ((⟨#[101]⟩ : ByteArray) ++ t104))) else (none)) else (none)))) else ((strconv_FormatInt.f a0_1 10).bind fun t105 => (if 1 + t105.size ≤ 9223372036854775807 then (if t103.size + ((⟨#[47]⟩ : ByteArray) ++ t105).size ≤ 9223372036854775807 then (if a0_2 = 0 then (some (t103 ++ ((⟨#[47]⟩ : ByteArray) ++ t105))) else ((strconv_Itoa.f a0_2).bind fun t106 => (if 1 + t106.size ≤ 9223372036854775807 then (if (t103 ++ ((⟨#[47]⟩ : ByteArray) ++ t105)).size + ((⟨#[101]⟩ : ByteArray) ++ t106).size ≤ 9223372036854775807 then (some ((t103 ++ ((⟨#[47]⟩ : ByteArray) ++ t105)) ++ ((⟨#[101]⟩ : ByteArray) ++ t106))) else (none)) else (none)))) else (none)) else (none))))) else (some (⟨#[]⟩ : ByteArray)))) = some r := h
 clear h
 replace H := Option.bind_eq_some_iff.mp H
 obtain ⟨t102, A20, H⟩ := H
 replace H : (if t102 = true then ((strconv_FormatInt.f a0_0 10).bind fun t103 => (if a0_1 = 1 then (if a0_2 = 0 then (some t103) else ((strconv_Itoa.f a0_2).bind fun t104 => (if 1 + t104.size ≤ 9223372036854775807 then (if t103.size + ((⟨#[101]⟩ : ByteArray) ++ t104).size ≤ 9223372036854775807 then (some (t103 ++ ((⟨#[101]⟩ : ByteArray) ++ t104))) else (none)) else (none)))) else ((strconv_FormatInt.f a0_1 10).bind fun t105 => (if 1 + t105.size ≤ 9223372036854775807 then (if t103.size + ((⟨#[47]⟩ : ByteArray) ++ t105).size ≤ 9223372036854775807 then (if a0_2 = 0 then (some (t103 ++ ((⟨#[47]⟩ : ByteArray) ++ t105))) else ((strconv_Itoa.f a0_2).bind fun t106 => (if 1 + t106.size ≤ 9223372036854775807 then (if (t103 ++ ((⟨#[47]⟩ : ByteArray) ++ t105)).size + ((⟨#[101]⟩ : ByteArray) ++ t106).size ≤ 9223372036854775807 then (some ((t103 ++ ((⟨#[47]⟩ : ByteArray) ++ t105)) ++ ((⟨#[101]⟩ : ByteArray) ++ t106))) else (none)) else (none)))) else (none)) else (none))))) else (some (⟨#[]⟩ : ByteArray))) = some r := H
 have A2 := Aside0.mk A20
 clear A20
 by_cases c3 : t102 = true
 ·subst c3
  have H1 : ((strconv_FormatInt.f a0_0 10).bind fun t103 => (if a0_1 = 1 then (if a0_2 = 0 then (some t103) else ((strconv_Itoa.f a0_2).bind fun t104 => (if 1 + t104.size ≤ 9223372036854775807 then (if t103.size + ((⟨#[101]⟩ : ByteArray) ++ t104).size ≤ 9223372036854775807 then (some (t103 ++ ((⟨#[101]⟩ : ByteArray) ++ t104))) else (none)) else (none)))) else ((strconv_FormatInt.f a0_1 10).bind fun t105 => (if 1 + t105.size ≤ 9223372036854775807 then (if t103.size + ((⟨#[47]⟩ : ByteArray) ++ t105).size ≤ 9223372036854775807 then (if a0_2 = 0 then (some (t103 ++ ((⟨#[47]⟩ : ByteArray) ++ t105))) else ((strconv_Itoa.f a0_2).bind fun t106 => (if 1 + t106.size ≤ 9223372036854775807 then (if (t103 ++ ((⟨#[47]⟩ : ByteArray) ++ t105)).size + ((⟨#[101]⟩ : ByteArray) ++ t106).size ≤ 9223372036854775807 then (some ((t103 ++ ((⟨#[47]⟩ : ByteArray) ++ t105)) ++ ((⟨#[101]⟩ : ByteArray) ++ t106))) else (none)) else (none)))) else (none)) else (none))))) = some r := by rw [if_pos rfl] at H; exact H
  clear H
  have H := H1
  clear H1
  replace H := Option.bind_eq_some_iff.mp H
  obtain ⟨t103, A40, H⟩ := H
  replace H : (if a0_1 = 1 then (if a0_2 = 0 then (some t103) else ((strconv_Itoa.f a0_2).bind fun t104 => (if 1 + t104.size ≤ 9223372036854775807 then (if t103.size + ((⟨#[101]⟩ : ByteArray) ++ t104).size ≤ 9223372036854775807 then (some (t103 ++ ((⟨#[101]⟩ : ByteArray) ++ t104))) else (none)) else (none)))) else ((strconv_FormatInt.f a0_1 10).bind fun t105 => (if 1 + t105.size ≤ 9223372036854775807 then (if t103.size + ((⟨#[47]⟩ : ByteArray) ++ t105).size ≤ 9223372036854775807 then (if a0_2 = 0 then (some (t103 ++ ((⟨#[47]⟩ : ByteArray) ++ t105))) else ((strconv_Itoa.f a0_2).bind fun t106 => (if 1 + t106.size ≤ 9223372036854775807 then (if (t103 ++ ((⟨#[47]⟩ : ByteArray) ++ t105)).size + ((⟨#[101]⟩ : ByteArray) ++ t106).size ≤ 9223372036854775807 then (some ((t103 ++ ((⟨#[47]⟩ : ByteArray) ++ t105)) ++ ((⟨#[101]⟩ : ByteArray) ++ t106))) else (none)) else (none)))) else (none)) else (none)))) = some r := H
  have A4 := Aside0.mk A40
  clear A40
  by_cases c5 : a0_1 = 1
  ·rw [if_pos c5] at H
   have c5b0 : (a0_1 == 1) = true := beq_iff_eq.mpr c5
   have c5b1 : (a0_1 != 1) = false := bne_eq_false_iff_eq.mpr c5
   clear c5
   by_cases c6 : a0_2 = 0
   ·rw [if_pos c6] at H
    have c6b0 : (a0_2 == 0) = true := beq_iff_eq.mpr c6
    have c6b1 : (a0_2 != 0) = false := bne_eq_false_iff_eq.mpr c6
    clear c6
    obtain rfl := Option.some.inj H
    go_enter Tryd.func22, Tryd.ntmps22
    go_wp2_with (first | ((with_reducible refine gate_dst (N := 1) rfl ?_); refine box_event ?hg (N := 1) ?hd (cs := #[.int .i64 a0_0, .int .i64 a0_1, .int .i64 a0_2]) (t := 24) ?hr ?_; (case hd => rfl); (case hg => rfl); (case hr => first | (go_simp; done) | (go_simp; rfl)); intro gb101 hg w7 hbox hb; have n0_ := Aside0.mk (below_step (bl HB.out) hb); have n1_ := Aside0.mk (hbox); have n2_ := Aside0.mk ((by rw [hg]; exact (below_size (bl HB.out)) : w.heap.size ≤ gb101)); have n3_ := Aside0.mk ((by rw [hg]; exact (below_size (bl HB.out)) : w.heap.size ≤ gb101)); clear HB; have HB := n0_; have BK101 := n1_; have GW101 := n2_; have GE101 := n3_; clear n0_ n1_ n2_ n3_; clear hb hbox hg; obtain ⟨hcz8_0, hcz8_1, hcz8_2⟩ := hc3 BK101.out; obtain ⟨hfz8_0, hfz8_1, hfz8_2⟩ := hf3 BK101.out) | ((with_reducible refine gate_callee (f := 13) rfl ?_); refine goesL_ (some 5) rfl rfl Tryd.func13 (by kernel_rfl) rfl #[.agg #[.int .i64 a0_0, .int .i64 a0_1, .int .i64 a0_2]] rfl (by (try simp only [List.map_toArray, List.map_cons, List.map_nil]); first | done | rfl | (simp only [List.length_drop, List.length_take]; rfl)) ?_; (with_reducible refine (frac_Right.calls k a0_0 a0_1 a0_2 true _ A2.out).mono ?_); rintro e w9 ⟨rfl, hb⟩; refine ⟨_, rfl, ?_⟩; replace BK101 := Aside0.mk (blk_below (kp BK101.out) hb); replace HB := Aside0.mk (below_step (bl HB.out) hb); (try clear hb); (try clear hb2); (try clear hk); (try clear hi); obtain ⟨hcz10_0, hcz10_1, hcz10_2⟩ := hc3 BK101.out; obtain ⟨hfz10_0, hfz10_1, hfz10_2⟩ := hf3 BK101.out) | ((with_reducible refine gate_callee (f := 43) rfl ?_); refine goesL_ (some 9) rfl rfl Tryd.func43 (by kernel_rfl) rfl #[.int .i64 a0_0, .int .i64 10] rfl (by (try simp only [List.map_toArray, List.map_cons, List.map_nil]); first | done | rfl | (simp only [List.length_drop, List.length_take]; rfl)) ?_; (with_reducible refine (strconv_FormatInt.calls a0_0 10 t103 _ (Glob.use hG (by decide) (bl HB.out)) A4.out).mono ?_); rintro e w11 ⟨rfl, hb⟩; refine ⟨_, rfl, ?_⟩; replace BK101 := Aside0.mk (blk_below (kp BK101.out) hb); replace HB := Aside0.mk (below_step (bl HB.out) hb); (try clear hb); (try clear hb2); (try clear hk); (try clear hi); obtain ⟨hcz12_0, hcz12_1, hcz12_2⟩ := hc3 BK101.out; obtain ⟨hfz12_0, hfz12_1, hfz12_2⟩ := hf3 BK101.out))
    go_ret
    exact ⟨by first | rfl | (simp [errW_none, errW_some] <;> rfl) | (simp [*, errW_none, errW_some] <;> rfl), bl HB.out⟩
   ·rw [if_neg c6] at H
    have c6b0 : (a0_2 == 0) = false := beq_eq_false_iff_ne.mpr c6
    have c6b1 : (a0_2 != 0) = true := bne_iff_ne.mpr c6
    replace H := Option.bind_eq_some_iff.mp H
    obtain ⟨t104, A130, H⟩ := H
    replace H : (if 1 + t104.size ≤ 9223372036854775807 then (if t103.size + ((⟨#[101]⟩ : ByteArray) ++ t104).size ≤ 9223372036854775807 then (some (t103 ++ ((⟨#[101]⟩ : ByteArray) ++ t104))) else (none)) else (none)) = some r := H
    have A13 := Aside0.mk A130
    clear A130
    by_cases c14 : 1 + t104.size ≤ 9223372036854775807
    ·rw [if_pos c14] at H
     have c14b0 := eq_true c14
     have c14b1 : decide (1 + t104.size ≤ 9223372036854775807) = true := decide_eq_true c14
     try have c14b2 : (9223372036854775807 < 1 + t104.size) = False := eq_false (Nat.not_lt.2 c14)
     by_cases c15 : t103.size + ((⟨#[101]⟩ : ByteArray) ++ t104).size ≤ 9223372036854775807
     ·rw [if_pos c15] at H
      have c15b0 := eq_true c15
      have c15b1 : decide (t103.size + ((⟨#[101]⟩ : ByteArray) ++ t104).size ≤ 9223372036854775807) = true := decide_eq_true c15
      try have c15b2 : (9223372036854775807 < t103.size + ((⟨#[101]⟩ : ByteArray) ++ t104).size) = False := eq_false (Nat.not_lt.2 c15)
      (try have c15b3 : (9223372036854775807 < t103.size + (1 + t104.size)) = False := eq_false (by have h_ := c15; simp only [ByteArray.size_append] at h_; have e0_ : (⟨#[101]⟩ : ByteArray).size = 1 := rfl; omega))
      obtain rfl := Option.some.inj H
      go_enter Tryd.func22, Tryd.ntmps22
      go_wp2_with (first | ((with_reducible refine gate_dst (N := 1) rfl ?_); refine box_event ?hg (N := 1) ?hd (cs := #[.int .i64 a0_0, .int .i64 a0_1, .int .i64 a0_2]) (t := 24) ?hr ?_; (case hd => rfl); (case hg => rfl); (case hr => first | (go_simp; done) | (go_simp; rfl)); intro gb101 hg w16 hbox hb; have n0_ := Aside0.mk (below_step (bl HB.out) hb); have n1_ := Aside0.mk (hbox); have n2_ := Aside0.mk ((by rw [hg]; exact (below_size (bl HB.out)) : w.heap.size ≤ gb101)); have n3_ := Aside0.mk ((by rw [hg]; exact (below_size (bl HB.out)) : w.heap.size ≤ gb101)); clear HB; have HB := n0_; have BK101 := n1_; have GW101 := n2_; have GE101 := n3_; clear n0_ n1_ n2_ n3_; clear hb hbox hg; obtain ⟨hcz17_0, hcz17_1, hcz17_2⟩ := hc3 BK101.out; obtain ⟨hfz17_0, hfz17_1, hfz17_2⟩ := hf3 BK101.out) | ((with_reducible refine gate_callee (f := 13) rfl ?_); refine goesL_ (some 5) rfl rfl Tryd.func13 (by kernel_rfl) rfl #[.agg #[.int .i64 a0_0, .int .i64 a0_1, .int .i64 a0_2]] rfl (by (try simp only [List.map_toArray, List.map_cons, List.map_nil]); first | done | rfl | (simp only [List.length_drop, List.length_take]; rfl)) ?_; (with_reducible refine (frac_Right.calls k a0_0 a0_1 a0_2 true _ A2.out).mono ?_); rintro e w18 ⟨rfl, hb⟩; refine ⟨_, rfl, ?_⟩; replace BK101 := Aside0.mk (blk_below (kp BK101.out) hb); replace HB := Aside0.mk (below_step (bl HB.out) hb); (try clear hb); (try clear hb2); (try clear hk); (try clear hi); obtain ⟨hcz19_0, hcz19_1, hcz19_2⟩ := hc3 BK101.out; obtain ⟨hfz19_0, hfz19_1, hfz19_2⟩ := hf3 BK101.out) | ((with_reducible refine gate_callee (f := 43) rfl ?_); refine goesL_ (some 9) rfl rfl Tryd.func43 (by kernel_rfl) rfl #[.int .i64 a0_0, .int .i64 10] rfl (by (try simp only [List.map_toArray, List.map_cons, List.map_nil]); first | done | rfl | (simp only [List.length_drop, List.length_take]; rfl)) ?_; (with_reducible refine (strconv_FormatInt.calls a0_0 10 t103 _ (Glob.use hG (by decide) (bl HB.out)) A4.out).mono ?_); rintro e w20 ⟨rfl, hb⟩; refine ⟨_, rfl, ?_⟩; replace BK101 := Aside0.mk (blk_below (kp BK101.out) hb); replace HB := Aside0.mk (below_step (bl HB.out) hb); (try clear hb); (try clear hb2); (try clear hk); (try clear hi); obtain ⟨hcz21_0, hcz21_1, hcz21_2⟩ := hc3 BK101.out; obtain ⟨hfz21_0, hfz21_1, hfz21_2⟩ := hf3 BK101.out) | ((with_reducible refine gate_callee (f := 44) rfl ?_); refine goesL_ (some 25) rfl rfl Tryd.func44 (by kernel_rfl) rfl #[.int .i64 a0_2] rfl (by (try simp only [List.map_toArray, List.map_cons, List.map_nil]); first | done | rfl | (simp only [List.length_drop, List.length_take]; rfl)) ?_; (with_reducible refine (strconv_Itoa.calls a0_2 t104 _ (Glob.use hG (by decide) (bl HB.out)) A13.out).mono ?_); rintro e w22 ⟨rfl, hb⟩; refine ⟨_, rfl, ?_⟩; replace BK101 := Aside0.mk (blk_below (kp BK101.out) hb); replace HB := Aside0.mk (below_step (bl HB.out) hb); (try clear hb); (try clear hb2); (try clear hk); (try clear hi)))
      go_ret
      exact ⟨by first | rfl | (simp [errW_none, errW_some] <;> rfl) | (simp [*, errW_none, errW_some] <;> rfl), bl HB.out⟩
     ·rw [if_neg c15] at H
      exact absurd H (by simp)
    ·rw [if_neg c14] at H
     exact absurd H (by simp)
  ·rw [if_neg c5] at H
   have c5b0 : (a0_1 == 1) = false := beq_eq_false_iff_ne.mpr c5
   have c5b1 : (a0_1 != 1) = true := bne_iff_ne.mpr c5
   replace H := Option.bind_eq_some_iff.mp H
   obtain ⟨t105, A230, H⟩ := H
   replace H : (if 1 + t105.size ≤ 9223372036854775807 then (if t103.size + ((⟨#[47]⟩ : ByteArray) ++ t105).size ≤ 9223372036854775807 then (if a0_2 = 0 then (some (t103 ++ ((⟨#[47]⟩ : ByteArray) ++ t105))) else ((strconv_Itoa.f a0_2).bind fun t106 => (if 1 + t106.size ≤ 9223372036854775807 then (if (t103 ++ ((⟨#[47]⟩ : ByteArray) ++ t105)).size + ((⟨#[101]⟩ : ByteArray) ++ t106).size ≤ 9223372036854775807 then (some ((t103 ++ ((⟨#[47]⟩ : ByteArray) ++ t105)) ++ ((⟨#[101]⟩ : ByteArray) ++ t106))) else (none)) else (none)))) else (none)) else (none)) = some r := H
   have A23 := Aside0.mk A230
   clear A230
   by_cases c24 : 1 + t105.size ≤ 9223372036854775807
   ·rw [if_pos c24] at H
    have c24b0 := eq_true c24
    have c24b1 : decide (1 + t105.size ≤ 9223372036854775807) = true := decide_eq_true c24
    try have c24b2 : (9223372036854775807 < 1 + t105.size) = False := eq_false (Nat.not_lt.2 c24)
    by_cases c25 : t103.size + ((⟨#[47]⟩ : ByteArray) ++ t105).size ≤ 9223372036854775807
    ·rw [if_pos c25] at H
     have c25b0 := eq_true c25
     have c25b1 : decide (t103.size + ((⟨#[47]⟩ : ByteArray) ++ t105).size ≤ 9223372036854775807) = true := decide_eq_true c25
     try have c25b2 : (9223372036854775807 < t103.size + ((⟨#[47]⟩ : ByteArray) ++ t105).size) = False := eq_false (Nat.not_lt.2 c25)
     (try have c25b3 : (9223372036854775807 < t103.size + (1 + t105.size)) = False := eq_false (by have h_ := c25; simp only [ByteArray.size_append] at h_; have e0_ : (⟨#[47]⟩ : ByteArray).size = 1 := rfl; omega))
     by_cases c26 : a0_2 = 0
     ·rw [if_pos c26] at H
      have c26b0 : (a0_2 == 0) = true := beq_iff_eq.mpr c26
      have c26b1 : (a0_2 != 0) = false := bne_eq_false_iff_eq.mpr c26
      clear c26
      obtain rfl := Option.some.inj H
      go_enter Tryd.func22, Tryd.ntmps22
      go_wp2_with (first | ((with_reducible refine gate_dst (N := 1) rfl ?_); refine box_event ?hg (N := 1) ?hd (cs := #[.int .i64 a0_0, .int .i64 a0_1, .int .i64 a0_2]) (t := 24) ?hr ?_; (case hd => rfl); (case hg => rfl); (case hr => first | (go_simp; done) | (go_simp; rfl)); intro gb101 hg w27 hbox hb; have n0_ := Aside0.mk (below_step (bl HB.out) hb); have n1_ := Aside0.mk (hbox); have n2_ := Aside0.mk ((by rw [hg]; exact (below_size (bl HB.out)) : w.heap.size ≤ gb101)); have n3_ := Aside0.mk ((by rw [hg]; exact (below_size (bl HB.out)) : w.heap.size ≤ gb101)); clear HB; have HB := n0_; have BK101 := n1_; have GW101 := n2_; have GE101 := n3_; clear n0_ n1_ n2_ n3_; clear hb hbox hg; obtain ⟨hcz28_0, hcz28_1, hcz28_2⟩ := hc3 BK101.out; obtain ⟨hfz28_0, hfz28_1, hfz28_2⟩ := hf3 BK101.out) | ((with_reducible refine gate_callee (f := 13) rfl ?_); refine goesL_ (some 5) rfl rfl Tryd.func13 (by kernel_rfl) rfl #[.agg #[.int .i64 a0_0, .int .i64 a0_1, .int .i64 a0_2]] rfl (by (try simp only [List.map_toArray, List.map_cons, List.map_nil]); first | done | rfl | (simp only [List.length_drop, List.length_take]; rfl)) ?_; (with_reducible refine (frac_Right.calls k a0_0 a0_1 a0_2 true _ A2.out).mono ?_); rintro e w29 ⟨rfl, hb⟩; refine ⟨_, rfl, ?_⟩; replace BK101 := Aside0.mk (blk_below (kp BK101.out) hb); replace HB := Aside0.mk (below_step (bl HB.out) hb); (try clear hb); (try clear hb2); (try clear hk); (try clear hi); obtain ⟨hcz30_0, hcz30_1, hcz30_2⟩ := hc3 BK101.out; obtain ⟨hfz30_0, hfz30_1, hfz30_2⟩ := hf3 BK101.out) | ((with_reducible refine gate_callee (f := 43) rfl ?_); refine goesL_ (some 9) rfl rfl Tryd.func43 (by kernel_rfl) rfl #[.int .i64 a0_0, .int .i64 10] rfl (by (try simp only [List.map_toArray, List.map_cons, List.map_nil]); first | done | rfl | (simp only [List.length_drop, List.length_take]; rfl)) ?_; (with_reducible refine (strconv_FormatInt.calls a0_0 10 t103 _ (Glob.use hG (by decide) (bl HB.out)) A4.out).mono ?_); rintro e w31 ⟨rfl, hb⟩; refine ⟨_, rfl, ?_⟩; replace BK101 := Aside0.mk (blk_below (kp BK101.out) hb); replace HB := Aside0.mk (below_step (bl HB.out) hb); (try clear hb); (try clear hb2); (try clear hk); (try clear hi); obtain ⟨hcz32_0, hcz32_1, hcz32_2⟩ := hc3 BK101.out; obtain ⟨hfz32_0, hfz32_1, hfz32_2⟩ := hf3 BK101.out) | ((with_reducible refine gate_callee (f := 43) rfl ?_); refine goesL_ (some 16) rfl rfl Tryd.func43 (by kernel_rfl) rfl #[.int .i64 a0_1, .int .i64 10] rfl (by (try simp only [List.map_toArray, List.map_cons, List.map_nil]); first | done | rfl | (simp only [List.length_drop, List.length_take]; rfl)) ?_; (with_reducible refine (strconv_FormatInt.calls a0_1 10 t105 _ (Glob.use hG (by decide) (bl HB.out)) A23.out).mono ?_); rintro e w33 ⟨rfl, hb⟩; refine ⟨_, rfl, ?_⟩; replace BK101 := Aside0.mk (blk_below (kp BK101.out) hb); replace HB := Aside0.mk (below_step (bl HB.out) hb); (try clear hb); (try clear hb2); (try clear hk); (try clear hi); obtain ⟨hcz34_0, hcz34_1, hcz34_2⟩ := hc3 BK101.out; obtain ⟨hfz34_0, hfz34_1, hfz34_2⟩ := hf3 BK101.out))
      go_ret
      exact ⟨by first | rfl | (simp [errW_none, errW_some] <;> rfl) | (simp [*, errW_none, errW_some] <;> rfl), bl HB.out⟩
     ·rw [if_neg c26] at H
      have c26b0 : (a0_2 == 0) = false := beq_eq_false_iff_ne.mpr c26
      have c26b1 : (a0_2 != 0) = true := bne_iff_ne.mpr c26
      replace H := Option.bind_eq_some_iff.mp H
      obtain ⟨t106, A350, H⟩ := H
      replace H : (if 1 + t106.size ≤ 9223372036854775807 then (if (t103 ++ ((⟨#[47]⟩ : ByteArray) ++ t105)).size + ((⟨#[101]⟩ : ByteArray) ++ t106).size ≤ 9223372036854775807 then (some ((t103 ++ ((⟨#[47]⟩ : ByteArray) ++ t105)) ++ ((⟨#[101]⟩ : ByteArray) ++ t106))) else (none)) else (none)) = some r := H
      have A35 := Aside0.mk A350
      clear A350
      by_cases c36 : 1 + t106.size ≤ 9223372036854775807
      ·rw [if_pos c36] at H
       have c36b0 := eq_true c36
       have c36b1 : decide (1 + t106.size ≤ 9223372036854775807) = true := decide_eq_true c36
       try have c36b2 : (9223372036854775807 < 1 + t106.size) = False := eq_false (Nat.not_lt.2 c36)
       by_cases c37 : (t103 ++ ((⟨#[47]⟩ : ByteArray) ++ t105)).size + ((⟨#[101]⟩ : ByteArray) ++ t106).size ≤ 9223372036854775807
       ·rw [if_pos c37] at H
        have c37b0 := eq_true c37
        have c37b1 : decide ((t103 ++ ((⟨#[47]⟩ : ByteArray) ++ t105)).size + ((⟨#[101]⟩ : ByteArray) ++ t106).size ≤ 9223372036854775807) = true := decide_eq_true c37
        try have c37b2 : (9223372036854775807 < (t103 ++ ((⟨#[47]⟩ : ByteArray) ++ t105)).size + ((⟨#[101]⟩ : ByteArray) ++ t106).size) = False := eq_false (Nat.not_lt.2 c37)
        (try have c37b3 : (9223372036854775807 < t103.size + (1 + t105.size) + (1 + t106.size)) = False := eq_false (by have h_ := c37; simp only [ByteArray.size_append] at h_; have e0_ : (⟨#[101]⟩ : ByteArray).size = 1 := rfl; have e1_ : (⟨#[47]⟩ : ByteArray).size = 1 := rfl; omega))
        obtain rfl := Option.some.inj H
        go_enter Tryd.func22, Tryd.ntmps22
        go_wp2_with (first | ((with_reducible refine gate_dst (N := 1) rfl ?_); refine box_event ?hg (N := 1) ?hd (cs := #[.int .i64 a0_0, .int .i64 a0_1, .int .i64 a0_2]) (t := 24) ?hr ?_; (case hd => rfl); (case hg => rfl); (case hr => first | (go_simp; done) | (go_simp; rfl)); intro gb101 hg w38 hbox hb; have n0_ := Aside0.mk (below_step (bl HB.out) hb); have n1_ := Aside0.mk (hbox); have n2_ := Aside0.mk ((by rw [hg]; exact (below_size (bl HB.out)) : w.heap.size ≤ gb101)); have n3_ := Aside0.mk ((by rw [hg]; exact (below_size (bl HB.out)) : w.heap.size ≤ gb101)); clear HB; have HB := n0_; have BK101 := n1_; have GW101 := n2_; have GE101 := n3_; clear n0_ n1_ n2_ n3_; clear hb hbox hg; obtain ⟨hcz39_0, hcz39_1, hcz39_2⟩ := hc3 BK101.out; obtain ⟨hfz39_0, hfz39_1, hfz39_2⟩ := hf3 BK101.out) | ((with_reducible refine gate_callee (f := 13) rfl ?_); refine goesL_ (some 5) rfl rfl Tryd.func13 (by kernel_rfl) rfl #[.agg #[.int .i64 a0_0, .int .i64 a0_1, .int .i64 a0_2]] rfl (by (try simp only [List.map_toArray, List.map_cons, List.map_nil]); first | done | rfl | (simp only [List.length_drop, List.length_take]; rfl)) ?_; (with_reducible refine (frac_Right.calls k a0_0 a0_1 a0_2 true _ A2.out).mono ?_); rintro e w40 ⟨rfl, hb⟩; refine ⟨_, rfl, ?_⟩; replace BK101 := Aside0.mk (blk_below (kp BK101.out) hb); replace HB := Aside0.mk (below_step (bl HB.out) hb); (try clear hb); (try clear hb2); (try clear hk); (try clear hi); obtain ⟨hcz41_0, hcz41_1, hcz41_2⟩ := hc3 BK101.out; obtain ⟨hfz41_0, hfz41_1, hfz41_2⟩ := hf3 BK101.out) | ((with_reducible refine gate_callee (f := 43) rfl ?_); refine goesL_ (some 9) rfl rfl Tryd.func43 (by kernel_rfl) rfl #[.int .i64 a0_0, .int .i64 10] rfl (by (try simp only [List.map_toArray, List.map_cons, List.map_nil]); first | done | rfl | (simp only [List.length_drop, List.length_take]; rfl)) ?_; (with_reducible refine (strconv_FormatInt.calls a0_0 10 t103 _ (Glob.use hG (by decide) (bl HB.out)) A4.out).mono ?_); rintro e w42 ⟨rfl, hb⟩; refine ⟨_, rfl, ?_⟩; replace BK101 := Aside0.mk (blk_below (kp BK101.out) hb); replace HB := Aside0.mk (below_step (bl HB.out) hb); (try clear hb); (try clear hb2); (try clear hk); (try clear hi); obtain ⟨hcz43_0, hcz43_1, hcz43_2⟩ := hc3 BK101.out; obtain ⟨hfz43_0, hfz43_1, hfz43_2⟩ := hf3 BK101.out) | ((with_reducible refine gate_callee (f := 43) rfl ?_); refine goesL_ (some 16) rfl rfl Tryd.func43 (by kernel_rfl) rfl #[.int .i64 a0_1, .int .i64 10] rfl (by (try simp only [List.map_toArray, List.map_cons, List.map_nil]); first | done | rfl | (simp only [List.length_drop, List.length_take]; rfl)) ?_; (with_reducible refine (strconv_FormatInt.calls a0_1 10 t105 _ (Glob.use hG (by decide) (bl HB.out)) A23.out).mono ?_); rintro e w44 ⟨rfl, hb⟩; refine ⟨_, rfl, ?_⟩; replace BK101 := Aside0.mk (blk_below (kp BK101.out) hb); replace HB := Aside0.mk (below_step (bl HB.out) hb); (try clear hb); (try clear hb2); (try clear hk); (try clear hi); obtain ⟨hcz45_0, hcz45_1, hcz45_2⟩ := hc3 BK101.out; obtain ⟨hfz45_0, hfz45_1, hfz45_2⟩ := hf3 BK101.out) | ((with_reducible refine gate_callee (f := 44) rfl ?_); refine goesL_ (some 25) rfl rfl Tryd.func44 (by kernel_rfl) rfl #[.int .i64 a0_2] rfl (by (try simp only [List.map_toArray, List.map_cons, List.map_nil]); first | done | rfl | (simp only [List.length_drop, List.length_take]; rfl)) ?_; (with_reducible refine (strconv_Itoa.calls a0_2 t106 _ (Glob.use hG (by decide) (bl HB.out)) A35.out).mono ?_); rintro e w46 ⟨rfl, hb⟩; refine ⟨_, rfl, ?_⟩; replace BK101 := Aside0.mk (blk_below (kp BK101.out) hb); replace HB := Aside0.mk (below_step (bl HB.out) hb); (try clear hb); (try clear hb2); (try clear hk); (try clear hi)))
        go_ret
        exact ⟨by first | rfl | (simp [errW_none, errW_some] <;> rfl) | (simp [*, errW_none, errW_some] <;> rfl), bl HB.out⟩
       ·rw [if_neg c37] at H
        exact absurd H (by simp)
      ·rw [if_neg c36] at H
       exact absurd H (by simp)
    ·rw [if_neg c25] at H
     exact absurd H (by simp)
   ·rw [if_neg c24] at H
    exact absurd H (by simp)
 ·replace c3 := Bool.eq_false_iff.mpr c3
  subst c3
  have H1 : (some (⟨#[]⟩ : ByteArray)) = some r := by rw [if_neg (show ¬ (false = true) by decide)] at H; exact H
  clear H
  have H := H1
  clear H1
  obtain rfl := Option.some.inj H
  go_enter Tryd.func22, Tryd.ntmps22
  go_wp2_with (first | ((with_reducible refine gate_dst (N := 1) rfl ?_); refine box_event ?hg (N := 1) ?hd (cs := #[.int .i64 a0_0, .int .i64 a0_1, .int .i64 a0_2]) (t := 24) ?hr ?_; (case hd => rfl); (case hg => rfl); (case hr => first | (go_simp; done) | (go_simp; rfl)); intro gb101 hg w47 hbox hb; have n0_ := Aside0.mk (below_step (bl HB.out) hb); have n1_ := Aside0.mk (hbox); have n2_ := Aside0.mk ((by rw [hg]; exact (below_size (bl HB.out)) : w.heap.size ≤ gb101)); have n3_ := Aside0.mk ((by rw [hg]; exact (below_size (bl HB.out)) : w.heap.size ≤ gb101)); clear HB; have HB := n0_; have BK101 := n1_; have GW101 := n2_; have GE101 := n3_; clear n0_ n1_ n2_ n3_; clear hb hbox hg; obtain ⟨hcz48_0, hcz48_1, hcz48_2⟩ := hc3 BK101.out; obtain ⟨hfz48_0, hfz48_1, hfz48_2⟩ := hf3 BK101.out) | ((with_reducible refine gate_callee (f := 13) rfl ?_); refine goesL_ (some 5) rfl rfl Tryd.func13 (by kernel_rfl) rfl #[.agg #[.int .i64 a0_0, .int .i64 a0_1, .int .i64 a0_2]] rfl (by (try simp only [List.map_toArray, List.map_cons, List.map_nil]); first | done | rfl | (simp only [List.length_drop, List.length_take]; rfl)) ?_; (with_reducible refine (frac_Right.calls k a0_0 a0_1 a0_2 false _ A2.out).mono ?_); rintro e w49 ⟨rfl, hb⟩; refine ⟨_, rfl, ?_⟩; replace BK101 := Aside0.mk (blk_below (kp BK101.out) hb); replace HB := Aside0.mk (below_step (bl HB.out) hb); (try clear hb); (try clear hb2); (try clear hk); (try clear hi)))
  go_ret
  exact ⟨by first | rfl | (simp [errW_none, errW_some] <;> rfl) | (simp [*, errW_none, errW_some] <;> rfl), bl HB.out⟩

/-! ### stringslite_Cut: function 58 -/
def stringslite_Cut.f (a0 : ByteArray) (a1 : ByteArray) : Option (ByteArray × ByteArray × Bool) := (stringslite_Index.f a0 a1).bind fun t107 => (if t107 ≥ 0 then (if 0 ≤ t107 then (if t107 ≤ (a0.size : Int) then (if 0 ≤ (wrap64 (t107 + (a1.size : Int))) then (if (wrap64 (t107 + (a1.size : Int))) ≤ (a0.size : Int) then (some (a0.extract 0 (t107 : Int).toNat, a0.extract ((wrap64 (t107 + (a1.size : Int))) : Int).toNat a0.size, true)) else (none)) else (none)) else (none)) else (none)) else (some (a0, (⟨#[]⟩ : ByteArray), false)))
set_option maxHeartbeats 8000000 in
set_option maxRecDepth 100000 in
theorem stringslite_Cut.calls (a0 : ByteArray) (a1 : ByteArray) (r1 : ByteArray) (r2 : ByteArray) (r3 : Bool) (w : World) (h : stringslite_Cut.f a0 a1 = some (r1, r2, r3)) :
  Calls Tryd.prog 58 #[.string a0, .string a1] w fun e w' => e = .returned (.tuple #[.string r1, .string r2, .bool r3]) ∧ Drawn0 w w' := by
 have H : ((stringslite_Index.f a0 a1).bind fun t107 => (if t107 ≥ 0 then (if 0 ≤ t107 then (if t107 ≤ (a0.size : Int) then (if 0 ≤ (wrap64 (t107 + (a1.size : Int))) then (if (wrap64 (t107 + (a1.size : Int))) ≤ (a0.size : Int) then (some (a0.extract 0 (t107 : Int).toNat, a0.extract ((wrap64 (t107 + (a1.size : Int))) : Int).toNat a0.size, true)) else (none)) else (none)) else (none)) else (none)) else (some (a0, (⟨#[]⟩ : ByteArray), false)))) = some (r1, r2, r3) := h
 clear h
 replace H := Option.bind_eq_some_iff.mp H
 obtain ⟨t107, A30, H⟩ := H
 replace H : (if t107 ≥ 0 then (if 0 ≤ t107 then (if t107 ≤ (a0.size : Int) then (if 0 ≤ (wrap64 (t107 + (a1.size : Int))) then (if (wrap64 (t107 + (a1.size : Int))) ≤ (a0.size : Int) then (some (a0.extract 0 (t107 : Int).toNat, a0.extract ((wrap64 (t107 + (a1.size : Int))) : Int).toNat a0.size, true)) else (none)) else (none)) else (none)) else (none)) else (some (a0, (⟨#[]⟩ : ByteArray), false))) = some (r1, r2, r3) := H
 have A3 := Aside0.mk A30
 clear A30
 by_cases c4 : t107 ≥ 0
 ·rw [if_pos c4] at H
  have c4b0 : decide (0 ≤ t107) = true := decide_eq_true c4
  clear c4
  by_cases c5 : 0 ≤ t107
  ·rw [if_pos c5] at H
   have c5b0 := eq_true c5
   have c5b1 : decide (0 ≤ t107) = true := decide_eq_true c5
   clear c5
   by_cases c6 : t107 ≤ (a0.size : Int)
   ·rw [if_pos c6] at H
    have c6b0 := eq_true c6
    have c6b1 : decide (t107 ≤ (a0.size : Int)) = true := decide_eq_true c6
    clear c6
    obtain ⟨ji7, hji7⟩ : ∃ j_ : Int, (wrap64 (t107 + (a1.size : Int))) = j_ := ⟨_, rfl⟩
    replace H : (if 0 ≤ (ji7) then (if (ji7) ≤ (a0.size : Int) then (some (a0.extract 0 (t107 : Int).toNat, a0.extract ((ji7) : Int).toNat a0.size, true)) else (none)) else (none)) = some (r1, r2, r3) := by first | (rw [hji7] at H; exact H) | (simp only [hji7] at H ⊢; exact H)
    (try rw [hji7] at A3)
    have hji7w : (IntKind.i64.wrap (t107 + (a1.size : Int))) = ji7 := (i64_w _).trans hji7
    by_cases c8 : 0 ≤ (ji7)
    ·rw [if_pos c8] at H
     have c8b0 := eq_true c8
     have c8b1 : decide (0 ≤ (ji7)) = true := decide_eq_true c8
     clear c8
     by_cases c9 : (ji7) ≤ (a0.size : Int)
     ·rw [if_pos c9] at H
      have c9b0 := eq_true c9
      have c9b1 : decide ((ji7) ≤ (a0.size : Int)) = true := decide_eq_true c9
      clear c9
      simp only [Option.some.injEq, Prod.mk.injEq] at H
      obtain ⟨rfl, rfl, rfl⟩ := H
      go_enter Tryd.func58, Tryd.ntmps58
      go_wp2_with (first | (go_at_call 64; (with_reducible refine (stringslite_Index.calls a0 a1 t107 _ A3.out).mono ?_); rintro e w' ⟨rfl, ⟨nd, rfl⟩⟩; (try first | exact ⟨rfl, _, World.drewN_drewN _ _ _⟩ | exact ⟨rfl, _, Eq.trans (World.drewN_drewN _ _ _) (congrArg (World.drewN _) (Nat.add_assoc _ _ _))⟩)))
      repeat (go_quiet (first | (go_at_call 64; (with_reducible refine (stringslite_Index.calls a0 a1 t107 _ A3.out).mono ?_); rintro e w' ⟨rfl, ⟨nd, rfl⟩⟩; (try first | exact ⟨rfl, _, World.drewN_drewN _ _ _⟩ | exact ⟨rfl, _, Eq.trans (World.drewN_drewN _ _ _) (congrArg (World.drewN _) (Nat.add_assoc _ _ _))⟩))); try go_wp2_with (first | (go_at_call 64; (with_reducible refine (stringslite_Index.calls a0 a1 t107 _ A3.out).mono ?_); rintro e w' ⟨rfl, ⟨nd, rfl⟩⟩; (try first | exact ⟨rfl, _, World.drewN_drewN _ _ _⟩ | exact ⟨rfl, _, Eq.trans (World.drewN_drewN _ _ _) (congrArg (World.drewN _) (Nat.add_assoc _ _ _))⟩))))
      go_ret3
      exact ⟨by first | rfl | (simp; done) | (simp only [← hji7] <;> (first | rfl | simp)) | (simp [*]; done), by repeat (first | exact Drawn0.refl _ | apply Drawn0.step)⟩
     ·rw [if_neg c9] at H
      exact absurd H (by simp)
    ·rw [if_neg c8] at H
     exact absurd H (by simp)
   ·rw [if_neg c6] at H
    exact absurd H (by simp)
  ·rw [if_neg c5] at H
   exact absurd H (by simp)
 ·rw [if_neg c4] at H
  have c4b0 : decide (0 ≤ t107) = false := decide_eq_false c4
  clear c4
  simp only [Option.some.injEq, Prod.mk.injEq] at H
  obtain ⟨rfl, rfl, rfl⟩ := H
  go_enter Tryd.func58, Tryd.ntmps58
  go_wp2_with (first | (go_at_call 64; (with_reducible refine (stringslite_Index.calls a0 a1 t107 _ A3.out).mono ?_); rintro e w' ⟨rfl, ⟨nd, rfl⟩⟩; (try first | exact ⟨rfl, _, World.drewN_drewN _ _ _⟩ | exact ⟨rfl, _, Eq.trans (World.drewN_drewN _ _ _) (congrArg (World.drewN _) (Nat.add_assoc _ _ _))⟩)))
  repeat (go_quiet (first | (go_at_call 64; (with_reducible refine (stringslite_Index.calls a0 a1 t107 _ A3.out).mono ?_); rintro e w' ⟨rfl, ⟨nd, rfl⟩⟩; (try first | exact ⟨rfl, _, World.drewN_drewN _ _ _⟩ | exact ⟨rfl, _, Eq.trans (World.drewN_drewN _ _ _) (congrArg (World.drewN _) (Nat.add_assoc _ _ _))⟩))); try go_wp2_with (first | (go_at_call 64; (with_reducible refine (stringslite_Index.calls a0 a1 t107 _ A3.out).mono ?_); rintro e w' ⟨rfl, ⟨nd, rfl⟩⟩; (try first | exact ⟨rfl, _, World.drewN_drewN _ _ _⟩ | exact ⟨rfl, _, Eq.trans (World.drewN_drewN _ _ _) (congrArg (World.drewN _) (Nat.add_assoc _ _ _))⟩))))
  go_ret3
  exact ⟨by first | rfl | (simp; done) | (simp [*]; done), by repeat (first | exact Drawn0.refl _ | apply Drawn0.step)⟩

/-! ### strings_Cut: function 39 -/
def strings_Cut.f (a0 : ByteArray) (a1 : ByteArray) : Option (ByteArray × ByteArray × Bool) := (stringslite_Cut.f a0 a1).bind fun bt108 => (some (bt108.1, bt108.2.1, bt108.2.2))
set_option maxHeartbeats 8000000 in
set_option maxRecDepth 100000 in
theorem strings_Cut.calls (a0 : ByteArray) (a1 : ByteArray) (r1 : ByteArray) (r2 : ByteArray) (r3 : Bool) (w : World) (h : strings_Cut.f a0 a1 = some (r1, r2, r3)) :
  Calls Tryd.prog 39 #[.string a0, .string a1] w fun e w' => e = .returned (.tuple #[.string r1, .string r2, .bool r3]) ∧ Drawn0 w w' := by
 have H : ((stringslite_Cut.f a0 a1).bind fun bt108 => (some (bt108.1, bt108.2.1, bt108.2.2))) = some (r1, r2, r3) := h
 clear h
 replace H := Option.bind_eq_some_iff.mp H
 obtain ⟨⟨t108, t109, t110⟩, A30, H⟩ := H
 replace H : (some (t108, t109, t110)) = some (r1, r2, r3) := H
 have A3 := Aside0.mk A30
 clear A30
 simp only [Option.some.injEq, Prod.mk.injEq] at H
 obtain ⟨rfl, rfl, rfl⟩ := H
 go_enter Tryd.func39, Tryd.ntmps39
 go_wp2_with (first | ((with_reducible refine gate_callee (f := 58) rfl ?_); refine goesL_ (some 9) rfl rfl Tryd.func58 (by kernel_rfl) rfl #[.string a0, .string a1] rfl (by (try simp only [List.map_toArray, List.map_cons, List.map_nil]); first | done | rfl | (simp only [List.length_drop, List.length_take]; rfl)) ?_; (with_reducible refine (stringslite_Cut.calls a0 a1 t108 t109 t110 _ A3.out).mono ?_); rintro e w' ⟨rfl, ⟨nd, rfl⟩⟩; refine ⟨_, rfl, ?_⟩))
 go_ret3
 exact ⟨by first | rfl | (simp; done) | (simp [*]; done), by repeat (first | exact Drawn0.refl _ | apply Drawn0.step)⟩

end Go.Proofs.YtnndaackjgnhhaaDoor.PT
