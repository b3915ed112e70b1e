/- Printed by a program of this session (wip/tools/prt.py) out of the translation: plain functions, and that the calls come to just them. No conditions beyond those that stand in each theorem. -/
import Derived.Test.YtimkhjbnkcgekaaDoorGlob
import Derived.Test.YtimkhjbnkcgekaaDoorPQx0
namespace Go.Proofs.YtimkhjbnkcgekaaDoor.PQ
open Go.Proofs.YtimkhjbnkcgekaaDoor.Sq Go.RowKit Go.Proofs.YtimkhjbnkcgekaaDoorW.PrintWords Go.Proofs.YtimkhjbnkcgekaaDoorW.PrintLast Go.Proofs.YtimkhjbnkcgekaaDoorW.PrintMore Go.Proofs.YtimkhjbnkcgekaaDoor.PB Go.Proofs.YtimkhjbnkcgekaaDoor.PC
attribute [local go_sem] max2_int min2_int max_two min_two max_three min_three max_four min_four   -- for this text's walks alone
set_option linter.unusedVariables false
set_option linter.unusedSimpArgs false

/-! ### drachmlaw08_awake: function 10 -/
def drachmlaw08_awake.f  : Option (Bool) := (lex_Lex.f 1 (⟨#[109, 109, 111, 108, 47, 108, 123, 120, 32, 121, 125]⟩ : ByteArray)).bind fun bt101 => ((lex_Lex.f 1 (⟨#[109, 32]⟩ : ByteArray)).bind fun bt106 => (if bt101.2.2 = 0 then (if (bt101.1.length : Int) = 4 then (if 3 < (bt101.1.length : Int) then (if ((rd_T31 bt101.1 3).f2).toList = ([120, 32, 121] : List UInt8) then (if bt106.2.1 = 1 then (some (bt106.2.2 == 14)) else (none)) else (none)) else (none)) else (none)) else (none)))
set_option maxHeartbeats 8000000 in
set_option maxRecDepth 100000 in
theorem drachmlaw08_awake.calls  (r : Bool) (w : World) (hG : Glob [0, 2] w) (h : drachmlaw08_awake.f  = some r) :
  Calls Tryd.prog 10 #[] w fun e w' => e = .returned (.bool r) ∧ Below w.heap.size w w' := by
 have HB := Aside0.mk (Below.refl w.heap.size w)
 have H : ((lex_Lex.f 1 (⟨#[109, 109, 111, 108, 47, 108, 123, 120, 32, 121, 125]⟩ : ByteArray)).bind fun bt101 => ((lex_Lex.f 1 (⟨#[109, 32]⟩ : ByteArray)).bind fun bt106 => (if bt101.2.2 = 0 then (if (bt101.1.length : Int) = 4 then (if 3 < (bt101.1.length : Int) then (if ((rd_T31 bt101.1 3).f2).toList = ([120, 32, 121] : List UInt8) then (if bt106.2.1 = 1 then (some (bt106.2.2 == 14)) else (none)) else (none)) else (none)) else (none)) else (none)))) = some r := h
 clear h
 replace H := Option.bind_eq_some_iff.mp H
 obtain ⟨⟨t101, t102, t103⟩, A10, H⟩ := H
 replace H : ((lex_Lex.f 1 (⟨#[109, 32]⟩ : ByteArray)).bind fun bt106 => (if t103 = 0 then (if (t101.length : Int) = 4 then (if 3 < (t101.length : Int) then (if ((rd_T31 t101 3).f2).toList = ([120, 32, 121] : List UInt8) then (if bt106.2.1 = 1 then (some (bt106.2.2 == 14)) else (none)) else (none)) else (none)) else (none)) else (none))) = some r := H
 have A1 := Aside0.mk A10
 clear A10
 replace H := Option.bind_eq_some_iff.mp H
 obtain ⟨⟨t106, t107, t108⟩, A20, H⟩ := H
 replace H : (if t103 = 0 then (if (t101.length : Int) = 4 then (if 3 < (t101.length : Int) then (if ((rd_T31 t101 3).f2).toList = ([120, 32, 121] : List UInt8) then (if t107 = 1 then (some (t108 == 14)) else (none)) else (none)) else (none)) else (none)) else (none)) = some r := H
 have A2 := Aside0.mk A20
 clear A20
 by_cases c3 : t103 = 0
 ·rw [if_pos c3] at H
  have c3b0 : (t103 == 0) = true := beq_iff_eq.mpr c3
  have c3b1 : (t103 != 0) = false := bne_eq_false_iff_eq.mpr c3
  clear c3
  by_cases c4 : (t101.length : Int) = 4
  ·rw [if_pos c4] at H
   have c4b0 : ((t101.length : Int) == 4) = true := beq_iff_eq.mpr c4
   have c4b1 : ((t101.length : Int) != 4) = false := bne_eq_false_iff_eq.mpr c4
   clear c4
   by_cases c5 : 3 < (t101.length : Int)
   ·rw [if_pos c5] at H
    have c5b0 : decide (3 < (t101.length : Int)) = true := decide_eq_true c5
    have c5b1 : decide (3 < t101.length) = true := decide_eq_true (by omega)
    clear c5
    by_cases c6 : ((rd_T31 t101 3).f2).toList = ([120, 32, 121] : List UInt8)
    ·rw [if_pos c6] at H
     have c6b0 : (((rd_T31 t101 3).f2).toList == ([120, 32, 121] : List UInt8)) = true := beq_iff_eq.mpr c6
     have c6b1 : (((rd_T31 t101 3).f2).toList != ([120, 32, 121] : List UInt8)) = false := bne_eq_false_iff_eq.mpr c6
     clear c6
     by_cases c7 : t107 = 1
     ·rw [if_pos c7] at H
      have c7b0 : (t107 == 1) = true := beq_iff_eq.mpr c7
      have c7b1 : (t107 != 1) = false := bne_eq_false_iff_eq.mpr c7
      clear c7
      obtain rfl := Option.some.inj H
      go_enter Tryd.func10, Tryd.ntmps10
      go_wp2_with (first | (go_at_call 18; (with_reducible refine (lex_Lex.calls 1 (⟨#[109, 109, 111, 108, 47, 108, 123, 120, 32, 121, 125]⟩ : ByteArray) t101 t102 t103 _ (Glob.use hG (by decide) (bl HB.out)) A1.out).mono ?_); rintro e w8 ⟨v104, rfl, ho0, hb⟩; have HO105 := Aside0.mk (Kd.R_lower ho0 (below_size (bl HB.out))); replace HB := sb HB hb; (try clear hb); (try clear hb2); (try clear hk); (try clear hi); (try clear ho0)) | (go_at_call 18; (with_reducible refine (lex_Lex.calls 1 (⟨#[109, 32]⟩ : ByteArray) t106 t107 t108 _ (Glob.use hG (by decide) (bl HB.out)) A2.out).mono ?_); rintro e w9 ⟨v109, rfl, ho0, hb⟩; have n0_ := Aside0.mk (Kd.R_elder' (by (with_reducible repeat (first | apply Kd.R_alloc | apply Kd.R_drewN | apply Kd.R_drew)); exact HO105.out) (Kd.R_base ho0) hb); have n1_ := Aside0.mk (Kd.R_lower (Kd.R_new' ho0 (Kd.R_lt (by (with_reducible repeat (first | apply Kd.R_alloc | apply Kd.R_drewN | apply Kd.R_drew)); exact HO105.out))) (below_size (bl HB.out))); have n2_ := sb HB hb; clear HO105; clear HB; have HO105 := n0_; have HO110 := n1_; have HB := n2_; clear n0_ n1_ n2_; (try clear hb); (try clear hb2); (try clear hk); (try clear hi); (try clear ho0); obtain ⟨Ao10, co10, eo10⟩ := Kd.R_slice HO105.out; subst eo10; have p111 : 0 ≤ (3 : Int) := (by omega); have q111 : 3 < (t101.length : Int) := of_decide_eq_true (by first | (with_reducible assumption) | assumption); obtain ⟨ad111, e111, hx111_0, hx111_1, hx111_2, hx111_3⟩ := at_T31 (Kd.R_reads' HO105.out).2.2 3 p111 q111; cases e111; (try simp only [show (3 : Int).toNat = 3 from rfl, Nat.reduceMul, Nat.reduceEqDiff, Go.Addr.add, ↓reduceIte] at hx111_0); (try simp only [show (3 : Int).toNat = 3 from rfl, Nat.reduceMul, Nat.reduceEqDiff, Go.Addr.add, ↓reduceIte] at hx111_1); (try simp only [show (3 : Int).toNat = 3 from rfl, Nat.reduceMul, Nat.reduceEqDiff, Go.Addr.add, ↓reduceIte] at hx111_2); (try simp only [show (3 : Int).toNat = 3 from rfl, Nat.reduceMul, Nat.reduceEqDiff, Go.Addr.add, ↓reduceIte] at hx111_3); have qi111 : (3 < t101.length) = True := eq_true (by omega); (try rw [show ((3 : Int)).toNat = 3 from rfl] at hx111_0); (try rw [show 3 * 4 = 12 from rfl] at hx111_0); (try rw [show ((3 : Int)).toNat = 3 from rfl] at hx111_1); (try rw [show 3 * 4 = 12 from rfl] at hx111_1); (try rw [show ((3 : Int)).toNat = 3 from rfl] at hx111_2); (try rw [show 3 * 4 = 12 from rfl] at hx111_2); (try rw [show ((3 : Int)).toNat = 3 from rfl] at hx111_3); (try rw [show 3 * 4 = 12 from rfl] at hx111_3); replace p111 := eq_true p111; replace q111 := eq_true q111))
      go_ret
      exact ⟨by first | rfl | (simp [errW_none, errW_some] <;> rfl) | (simp [*, errW_none, errW_some] <;> rfl), bl HB.out⟩
     ·rw [if_neg c7] at H
      exact absurd H (by simp)
    ·rw [if_neg c6] at H
     exact absurd H (by simp)
   ·rw [if_neg c5] at H
    exact absurd H (by simp)
  ·rw [if_neg c4] at H
   exact absurd H (by simp)
 ·rw [if_neg c3] at H
  exact absurd H (by simp)

end Go.Proofs.YtimkhjbnkcgekaaDoor.PQ
