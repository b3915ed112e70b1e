/- Printed by a program of this session (wip/tools/prt.py) out of the translation: plain functions, and that the calls come to just them. No conditions beyond those that stand in each theorem. -/
import Derived.Test.YtimkhjbnkcgekaaDoorPCx0
import Derived.Test.YtimkhjbnkcgekaaDoorPCx1
namespace Go.Proofs.YtimkhjbnkcgekaaDoor.PC
open Go.Proofs.YtimkhjbnkcgekaaDoor.Sq Go.RowKit Go.Proofs.YtimkhjbnkcgekaaDoorW.PrintWords Go.Proofs.YtimkhjbnkcgekaaDoorW.PrintLast Go.Proofs.YtimkhjbnkcgekaaDoorW.PrintMore Go.Proofs.YtimkhjbnkcgekaaDoor.PB
attribute [local go_sem] max2_int min2_int max_two min_two max_three min_three max_four min_four   -- for this text's walks alone
set_option linter.unusedVariables false
set_option linter.unusedSimpArgs false

attribute [local go_sem high] eqA31
/-! ### drachmref08_goes: function 39 -/
def drachmref08_goes.l0 : Nat → Int → ByteArray → Int → Int → Int → Option (Int)
 | 0, _, _, _, _, _ => none
 | k + 1, x0, x1, x2, x3, x9 => if (wrap64 (x2 + x9)) < (x1.size : Int) then (if 0 ≤ (wrap64 (x2 + x9)) then ((drachmref07_Kind.f k x0 (bt x1 (wrap64 (x2 + x9)))).bind fun t101 => (if t101 = x3 then (drachmref08_goes.l0 k x0 x1 x2 x3 (wrap64 (x9 + 1))) else (some x9))) else (none)) else (some x9)
def drachmref08_goes.f (k : Nat) (a0 : Int) (a1 : ByteArray) (a2 : Int) (a3 : Int) : Option (Int) := drachmref08_goes.l0 k a0 a1 a2 a3 0
theorem drachmref08_goes.mono_l : ∀ k, (∀ y0 y1 y2 y3 y4, LeO (drachmref08_goes.l0 k y0 y1 y2 y3 y4) (drachmref08_goes.l0 (k + 1) y0 y1 y2 y3 y4))
 | 0 => fun _ _ _ _ _ r h => by simp [drachmref08_goes.l0] at h
 | k + 1 => by
  have ih0 := drachmref08_goes.mono_l k
  ·intro y0 y1 y2 y3 y4
   unfold drachmref08_goes.l0
   repeat' first
   | (with_reducible exact ih0 _ _ _ _ _)
   | (with_reducible exact drachmref07_Kind.mono _ _ _)
   | (with_reducible exact LeO.refl _)
   | (with_reducible exact LeO.none _)
   | (with_reducible refine LeO.ite ?_ ?_)
   | (with_reducible refine LeO.bind ?_ (fun _ => ?_))
   | exact ih0 _ _ _ _ _
   | exact drachmref07_Kind.mono _ _ _
   | exact LeO.none _
   | refine LeO.ite ?_ ?_
   | refine LeO.bind ?_ (fun _ => ?_)
theorem drachmref08_goes.mono : ∀ a0 a1 a2 a3 k, LeO (drachmref08_goes.f k a0 a1 a2 a3) (drachmref08_goes.f (k + 1) a0 a1 a2 a3) := by
 intro a0 a1 a2 a3 k
 have ih0 := drachmref08_goes.mono_l k
 unfold drachmref08_goes.f
 repeat' first
   | (with_reducible exact ih0 _ _ _ _ _)
   | (with_reducible exact drachmref07_Kind.mono _ _ _)
   | (with_reducible exact LeO.refl _)
   | (with_reducible exact LeO.none _)
   | (with_reducible refine LeO.ite ?_ ?_)
   | (with_reducible refine LeO.bind ?_ (fun _ => ?_))
   | exact ih0 _ _ _ _ _
   | exact drachmref07_Kind.mono _ _ _
   | exact LeO.none _
   | refine LeO.ite ?_ ?_
   | refine LeO.bind ?_ (fun _ => ?_)
set_option maxHeartbeats 8000000 in
set_option maxRecDepth 100000 in
theorem drachmref08_goes.calls (k : Nat) (a0 : Int) (a1 : ByteArray) (a2 : Int) (a3 : Int) (r : Int) (w : World) (h : drachmref08_goes.f k a0 a1 a2 a3 = some r) :
  Calls Tryd.prog 39 #[.int .i64 a0, .string a1, .int .i64 a2, .int .i64 a3] w fun e w' => e = .returned (.int .i64 r) ∧ Below w.heap.size w w' := by
 have HB := Aside0.mk (Below.refl w.heap.size w)
 have H : (drachmref08_goes.l0 k a0 a1 a2 a3 0) = some r := h
 clear h
 have H' := Aside0.mk H
 clear H
 go_enter Tryd.func39, Tryd.ntmps39
 go_wp2
 go_loopg [9] k (fun kq v9 w' => ∃ (x9_1 : Int), v9 = .int .i64 x9_1 ∧ Aside0 (drachmref08_goes.l0 kq a0 a1 a2 a3 x9_1 = some r) ∧ Aside0 (kq ≤ k) ∧ Aside0 (Below w.heap.size w w'))
 case atStart => exact ⟨(0), (by first | rfl | (simp; done) | (simp [*]; done)), H', ⟨Nat.le_refl _⟩, ⟨bl HB.out⟩⟩
 case round =>
  clear H'
  try clear p2
  try clear c3
  obtain ⟨x9_1, rfl, HA, HK1, HB⟩ := hrel
  cases gk with
  | zero => exact absurd HA.out (by simp [drachmref08_goes.l0])
  | succ k1 =>
   have H := HA.out
   clear HA
   simp only [drachmref08_goes.l0] at H
   by_cases c5 : (wrap64 (a2 + x9_1)) < (a1.size : Int)
   ·rw [if_pos c5] at H
    have c5b0 : decide ((wrap64 (a2 + x9_1)) < (a1.size : Int)) = true := decide_eq_true c5
    clear c5
    obtain ⟨ji6, hji6⟩ : ∃ j_ : Int, (wrap64 (a2 + x9_1)) = j_ := ⟨_, rfl⟩
    replace H : (if 0 ≤ (ji6) then ((drachmref07_Kind.f k1 a0 (bt a1 (ji6))).bind fun t101 => (if t101 = a3 then (drachmref08_goes.l0 k1 a0 a1 a2 a3 (wrap64 (x9_1 + 1))) else (some x9_1))) else (none)) = some r := by first | (rw [hji6] at H; exact H) | (simp only [hji6] at H ⊢; exact H)
    (try rw [hji6] at c5b0)
    have hji6w : (IntKind.i64.wrap (a2 + x9_1)) = ji6 := (i64_w _).trans hji6
    by_cases c7 : 0 ≤ (ji6)
    ·rw [if_pos c7] at H
     have c7b0 : decide (0 ≤ (ji6)) = true := decide_eq_true c7
     clear c7
     replace H := Option.bind_eq_some_iff.mp H
     obtain ⟨t101, A90, H⟩ := H
     replace H : (if t101 = a3 then (drachmref08_goes.l0 k1 a0 a1 a2 a3 (wrap64 (x9_1 + 1))) else (some x9_1)) = some r := H
     have A9 := Aside0.mk A90
     clear A90
     by_cases c10 : t101 = a3
     ·rw [if_pos c10] at H
      have c10b0 : (t101 == a3) = true := beq_iff_eq.mpr c10
      have c10b1 : (t101 != a3) = false := bne_eq_false_iff_eq.mpr c10
      clear c10
      have H' := Aside0.mk H
      clear H
      have p8 : 0 ≤ ((ji6) : Int) := of_decide_eq_true (by first | (with_reducible assumption) | assumption)
      have q8 : (ji6) < (a1.size : Int) := of_decide_eq_true (by first | (with_reducible assumption) | assumption)
      have hx8 := bt_at a1 (ji6)
      replace p8 := eq_true p8
      replace q8 := eq_true q8
      go_wp2_with (first | (go_at_call 38; (with_reducible refine (drachmref07_Kind.calls k1 a0 (bt a1 (ji6)) t101 _ A9.out).mono ?_); rintro e w11 ⟨rfl, hb⟩; replace HB := sb HB hb; (try clear hb); (try clear hb2); (try clear hk); (try clear hi)))
      go_roundg k1
      case measure => have := HK1.out; omega
      case rel => exact ⟨(wrap64 (x9_1 + 1)), (by first | rfl | (simp; done) | (simp [*]; done)), H', ⟨by have := HK1.out; omega⟩, ⟨bl HB.out⟩⟩
     ·rw [if_neg c10] at H
      have c10b0 : (t101 == a3) = false := beq_eq_false_iff_ne.mpr c10
      have c10b1 : (t101 != a3) = true := bne_iff_ne.mpr c10
      obtain rfl := Option.some.inj H
      have p8 : 0 ≤ ((ji6) : Int) := of_decide_eq_true (by first | (with_reducible assumption) | assumption)
      have q8 : (ji6) < (a1.size : Int) := of_decide_eq_true (by first | (with_reducible assumption) | assumption)
      have hx8 := bt_at a1 (ji6)
      replace p8 := eq_true p8
      replace q8 := eq_true q8
      go_wp2_with (first | (go_at_call 38; (with_reducible refine (drachmref07_Kind.calls k1 a0 (bt a1 (ji6)) t101 _ A9.out).mono ?_); rintro e w12 ⟨rfl, hb⟩; replace HB := sb HB hb; (try clear hb); (try clear hb2); (try clear hk); (try clear hi)))
      go_ret
      exact ⟨by first | rfl | (simp [errW_none, errW_some] <;> rfl) | (simp only [← hji6]; first | rfl | (simp [errW_none, errW_some] <;> rfl)) | (simp [*, errW_none, errW_some] <;> rfl), bl HB.out⟩
    ·rw [if_neg c7] at H
     exact absurd H (by simp)
   ·rw [if_neg c5] at H
    have c5b0 : decide ((wrap64 (a2 + x9_1)) < (a1.size : Int)) = false := decide_eq_false c5
    clear c5
    obtain rfl := Option.some.inj H
    go_wp2
    go_ret
    exact ⟨by first | rfl | (simp [errW_none, errW_some] <;> rfl) | (simp [*, errW_none, errW_some] <;> rfl), bl HB.out⟩

/-! ### drachmref08_number: function 41 -/
def drachmref08_number.l0 : Nat → ByteArray → Int → Int → Option (Int × Bool)
 | 0, _, _, _ => none
 | k + 1, x0, x3, x4 => if x4 < (x0.size : Int) then (if 0 ≤ x4 then (if x3 > ((9223372036854775807 - (((bt x0 x4) - 48) % 256)) / 10) then (some (0, false)) else (drachmref08_number.l0 k x0 (wrap64 ((wrap64 (x3 * 10)) + (((bt x0 x4) - 48) % 256))) (wrap64 (x4 + 1)))) else (none)) else (some (x3, true))
def drachmref08_number.f (k : Nat) (a0 : ByteArray) : Option (Int × Bool) := drachmref08_number.l0 k a0 0 0
theorem drachmref08_number.mono_l : ∀ k, (∀ y0 y1 y2, LeO (drachmref08_number.l0 k y0 y1 y2) (drachmref08_number.l0 (k + 1) y0 y1 y2))
 | 0 => fun _ _ _ r h => by simp [drachmref08_number.l0] at h
 | k + 1 => by
  have ih0 := drachmref08_number.mono_l k
  ·intro y0 y1 y2
   unfold drachmref08_number.l0
   repeat' first
   | (with_reducible exact ih0 _ _ _)
   | (with_reducible exact LeO.refl _)
   | (with_reducible exact LeO.none _)
   | (with_reducible refine LeO.ite ?_ ?_)
   | (with_reducible refine LeO.bind ?_ (fun _ => ?_))
   | exact ih0 _ _ _
   | exact LeO.none _
   | refine LeO.ite ?_ ?_
   | refine LeO.bind ?_ (fun _ => ?_)
theorem drachmref08_number.mono : ∀ a0 k, LeO (drachmref08_number.f k a0) (drachmref08_number.f (k + 1) a0) := by
 intro a0 k
 have ih0 := drachmref08_number.mono_l k
 unfold drachmref08_number.f
 repeat' first
   | (with_reducible exact ih0 _ _ _)
   | (with_reducible exact LeO.refl _)
   | (with_reducible exact LeO.none _)
   | (with_reducible refine LeO.ite ?_ ?_)
   | (with_reducible refine LeO.bind ?_ (fun _ => ?_))
   | exact ih0 _ _ _
   | exact LeO.none _
   | refine LeO.ite ?_ ?_
   | refine LeO.bind ?_ (fun _ => ?_)
set_option maxHeartbeats 8000000 in
set_option maxRecDepth 100000 in
theorem drachmref08_number.calls (k : Nat) (a0 : ByteArray) (r1 : Int) (r2 : Bool) (w : World) (h : drachmref08_number.f k a0 = some (r1, r2)) :
  Calls Tryd.prog 41 #[.string a0] w fun e w' => e = .returned (.agg #[.int .i64 r1, .bool r2]) ∧ Below w.heap.size w w' := by
 have hu81 := Tryd.underlying81
 have HB := Aside0.mk (Below.refl w.heap.size w)
 have H : (drachmref08_number.l0 k a0 0 0) = some (r1, r2) := h
 clear h
 have H' := Aside0.mk H
 clear H
 go_enter Tryd.func41, Tryd.ntmps41
 go_wp2_with (first | ((with_reducible refine gate_dst (N := 2) rfl ?_); refine box_event ?hg (N := 2) ?hd (cs := #[.int .i64 0, .bool false]) (t := 81) ?hr ?_; (case hd => rfl); (case hg => rfl); (case hr => first | (go_simp; done) | (go_simp; rfl)); intro gb102 hg w2 hbox hb; have n0_ := sb HB hb; have n1_ := Aside0.mk (hbox); have n2_ := Aside0.mk ((by rw [hg]; exact (below_size (bl HB.out)) : w.heap.size ≤ gb102)); have n3_ := Aside0.mk ((by rw [hg]; exact (below_size (bl HB.out)) : w.heap.size ≤ gb102)); clear HB; have HB := n0_; have BK102 := n1_; have GW102 := n2_; have GE102 := n3_; clear n0_ n1_ n2_ n3_; clear hb hbox hg))
 go_loopg [3, 4] k (fun kq v3 v4 w' => ∃ (x3_1 : Int) (x4_1 : Int) (x103000_1 : Int) (x103001_1 : Bool), v3 = .int .i64 x3_1 ∧ v4 = .int .i64 x4_1 ∧ Aside0 (drachmref08_number.l0 kq a0 x3_1 x4_1 = some (r1, r2)) ∧ Aside0 (kq ≤ k) ∧ Aside0 (w'.heap[gb102]? = some (.cells #[.int .i64 x103000_1, .bool x103001_1] 81 (0, 0))) ∧ Aside0 (Below w.heap.size w w'))
 case atStart => exact ⟨(0), (0), (0), (false), (by first | rfl | (simp; done) | (simp [*]; done)), (by first | rfl | (simp; done) | (simp [*]; done)), H', ⟨Nat.le_refl _⟩, ⟨kp BK102.out⟩, ⟨bl HB.out⟩⟩
 case round =>
  clear H'
  try clear p2
  obtain ⟨x3_1, x4_1, x103000_1, x103001_1, rfl, rfl, HA, HK1, BK102, HB⟩ := hrel
  cases gk with
  | zero => exact absurd HA.out (by simp [drachmref08_number.l0])
  | succ k1 =>
   have H := HA.out
   clear HA
   simp only [drachmref08_number.l0] at H
   by_cases c3 : x4_1 < (a0.size : Int)
   ·rw [if_pos c3] at H
    have c3b0 : decide (x4_1 < (a0.size : Int)) = true := decide_eq_true c3
    clear c3
    by_cases c4 : 0 ≤ x4_1
    ·rw [if_pos c4] at H
     have c4b0 : decide (0 ≤ x4_1) = true := decide_eq_true c4
     clear c4
     by_cases c6 : x3_1 > ((9223372036854775807 - (((bt a0 x4_1) - 48) % 256)) / 10)
     ·rw [if_pos c6] at H
      have c6b0 : decide (((9223372036854775807 - (((bt a0 x4_1) - 48) % 256)) / 10) < x3_1) = true := decide_eq_true c6
      clear c6
      simp only [Option.some.injEq, Prod.mk.injEq] at H
      obtain ⟨rfl, rfl⟩ := H
      have p5 : 0 ≤ (x4_1 : Int) := of_decide_eq_true (by first | (with_reducible assumption) | assumption)
      have q5 : x4_1 < (a0.size : Int) := of_decide_eq_true (by first | (with_reducible assumption) | assumption)
      have hx5 := bt_at a0 x4_1
      replace p5 := eq_true p5
      replace q5 := eq_true q5
      obtain ⟨hcz7_0, hcz7_1⟩ := hc2 BK102.out
      obtain ⟨hfz7_0, hfz7_1⟩ := hf2 BK102.out
      go_wp2
      refine bodyPost_ret (results_cell_row rfl _ _ gb102 81 #[.int .i64 0, .bool false] (0, 0) _ rfl (kp (p2_1 (kp (p2_0 (kp BK102.out))))) Tryd.underlying81 rfl (by kernel_rfl)) rfl ?_
      exact ⟨by first | rfl | (simp [errW_none, errW_some] <;> rfl) | (simp [*, errW_none, errW_some] <;> rfl), bl HB.out⟩
     ·rw [if_neg c6] at H
      have c6b0 : decide (((9223372036854775807 - (((bt a0 x4_1) - 48) % 256)) / 10) < x3_1) = false := decide_eq_false c6
      clear c6
      have H' := Aside0.mk H
      clear H
      have p5 : 0 ≤ (x4_1 : Int) := of_decide_eq_true (by first | (with_reducible assumption) | assumption)
      have q5 : x4_1 < (a0.size : Int) := of_decide_eq_true (by first | (with_reducible assumption) | assumption)
      have hx5 := bt_at a0 x4_1
      replace p5 := eq_true p5
      replace q5 := eq_true q5
      go_wp2
      go_roundg k1
      case measure => have := HK1.out; omega
      case rel => exact ⟨(wrap64 ((wrap64 (x3_1 * 10)) + (((bt a0 x4_1) - 48) % 256))), (wrap64 (x4_1 + 1)), (x103000_1), (x103001_1), (by first | rfl | (simp; done) | (simp [*]; done)), (by first | rfl | (simp; done) | (simp [*]; done)), H', ⟨by have := HK1.out; omega⟩, ⟨kp BK102.out⟩, ⟨bl HB.out⟩⟩
    ·rw [if_neg c4] at H
     exact absurd H (by simp)
   ·rw [if_neg c3] at H
    have c3b0 : decide (x4_1 < (a0.size : Int)) = false := decide_eq_false c3
    clear c3
    simp only [Option.some.injEq, Prod.mk.injEq] at H
    obtain ⟨rfl, rfl⟩ := H
    obtain ⟨hcz8_0, hcz8_1⟩ := hc2 BK102.out
    obtain ⟨hfz8_0, hfz8_1⟩ := hf2 BK102.out
    go_wp2
    refine bodyPost_ret (results_cell_row rfl _ _ gb102 81 #[.int .i64 x3_1, .bool true] (0, 0) _ rfl (kp (p2_1 (kp (p2_0 (kp BK102.out))))) Tryd.underlying81 rfl (by kernel_rfl)) rfl ?_
    exact ⟨by first | rfl | (simp [errW_none, errW_some] <;> rfl) | (simp [*, errW_none, errW_some] <;> rfl), bl HB.out⟩

/-! ### drachmref08_note: function 42 -/
mutual
def drachmref08_note.j1 : Nat → Int → ByteArray → Int → Int → Option (Int × Int × ByteArray × Int × Int)
 | 0, _, _, _, _ => none
 | k + 1, x0, x1, x2, x7 => if x7 ≥ (x1.size : Int) then (some (0, 0, (⟨#[]⟩ : ByteArray), 0, 0)) else (if 0 ≤ (wrap64 (x2 + 1)) then (if (wrap64 (x2 + 1)) ≤ x7 then (if x7 ≤ (x1.size : Int) then ((drachmref07_Plain.f k x0 (x1.extract ((wrap64 (x2 + 1)) : Int).toNat (x7 : Int).toNat)).bind fun t110 => (if t110 = true then (some (9, x2, x1.extract ((wrap64 (x2 + 1)) : Int).toNat (x7 : Int).toNat, 0, wrap64 ((wrap64 (x7 + 1)) - x2))) else (some (0, 0, (⟨#[]⟩ : ByteArray), 0, 0)))) else (none)) else (none)) else (none))
def drachmref08_note.l0 : Nat → Int → ByteArray → Int → Int → Option (Int × Int × ByteArray × Int × Int)
 | 0, _, _, _, _ => none
 | k + 1, x0, x1, x2, x7 => if x7 < (x1.size : Int) then (if 0 ≤ x7 then ((drachmref07_Of.f x0).bind fun bt104 => (if (bt x1 x7) = bt104.2.2.2.2.2 then (drachmref08_note.j1 k x0 x1 x2 x7) else (drachmref08_note.l0 k x0 x1 x2 (wrap64 (x7 + 1))))) else (none)) else (drachmref08_note.j1 k x0 x1 x2 x7)
end
def drachmref08_note.f (k : Nat) (a0 : Int) (a1 : ByteArray) (a2 : Int) : Option (Int × Int × ByteArray × Int × Int) := drachmref08_note.l0 k a0 a1 a2 (wrap64 (a2 + 1))
theorem drachmref08_note.mono_l : ∀ k, (∀ y0 y1 y2 y3, LeO (drachmref08_note.j1 k y0 y1 y2 y3) (drachmref08_note.j1 (k + 1) y0 y1 y2 y3)) ∧ (∀ y0 y1 y2 y3, LeO (drachmref08_note.l0 k y0 y1 y2 y3) (drachmref08_note.l0 (k + 1) y0 y1 y2 y3))
 | 0 => ⟨fun _ _ _ _ r h => by simp [drachmref08_note.j1] at h, fun _ _ _ _ r h => by simp [drachmref08_note.l0] at h⟩
 | k + 1 => by
  obtain ⟨ih0, ih1⟩ := drachmref08_note.mono_l k
  refine ⟨?_, ?_⟩
  ·intro y0 y1 y2 y3
   unfold drachmref08_note.j1
   repeat' first
   | (with_reducible exact ih0 _ _ _ _)
   | (with_reducible exact ih1 _ _ _ _)
   | (with_reducible exact drachmref07_Plain.mono _ _ _)
   | (with_reducible exact LeO.refl _)
   | (with_reducible exact LeO.none _)
   | (with_reducible refine LeO.ite ?_ ?_)
   | (with_reducible refine LeO.bind ?_ (fun _ => ?_))
   | exact ih0 _ _ _ _
   | exact ih1 _ _ _ _
   | exact drachmref07_Plain.mono _ _ _
   | exact LeO.none _
   | refine LeO.ite ?_ ?_
   | refine LeO.bind ?_ (fun _ => ?_)
  ·intro y0 y1 y2 y3
   unfold drachmref08_note.l0
   repeat' first
   | (with_reducible exact ih0 _ _ _ _)
   | (with_reducible exact ih1 _ _ _ _)
   | (with_reducible exact drachmref07_Plain.mono _ _ _)
   | (with_reducible exact LeO.refl _)
   | (with_reducible exact LeO.none _)
   | (with_reducible refine LeO.ite ?_ ?_)
   | (with_reducible refine LeO.bind ?_ (fun _ => ?_))
   | exact ih0 _ _ _ _
   | exact ih1 _ _ _ _
   | exact drachmref07_Plain.mono _ _ _
   | exact LeO.none _
   | refine LeO.ite ?_ ?_
   | refine LeO.bind ?_ (fun _ => ?_)
theorem drachmref08_note.mono : ∀ a0 a1 a2 k, LeO (drachmref08_note.f k a0 a1 a2) (drachmref08_note.f (k + 1) a0 a1 a2) := by
 intro a0 a1 a2 k
 obtain ⟨ih0, ih1⟩ := drachmref08_note.mono_l k
 unfold drachmref08_note.f
 repeat' first
   | (with_reducible exact ih0 _ _ _ _)
   | (with_reducible exact ih1 _ _ _ _)
   | (with_reducible exact drachmref07_Plain.mono _ _ _)
   | (with_reducible exact LeO.refl _)
   | (with_reducible exact LeO.none _)
   | (with_reducible refine LeO.ite ?_ ?_)
   | (with_reducible refine LeO.bind ?_ (fun _ => ?_))
   | exact ih0 _ _ _ _
   | exact ih1 _ _ _ _
   | exact drachmref07_Plain.mono _ _ _
   | exact LeO.none _
   | refine LeO.ite ?_ ?_
   | refine LeO.bind ?_ (fun _ => ?_)
def drachmref08_note.T2 : Bool × List (List Nat × List Nat) := (true, [([], []), ([], []), ([1], [1]), ([0, 2], [0, 2]), ([3], [3]), ([4], [4]), ([4], [4]), ([5, 6, 4], [4, 5, 6]), ([4], [4]), ([8, 4, 4], [4, 8]), ([9, 4], [4, 9]), ([7, 10, 4], [4, 7, 10]), ([4, 11], [4, 11])])
def drachmref08_note.B2 : List Nat := [0, 0, 2, 7, 15, 31, 31, 127, 31, 287, 799, 2047, 4095]
theorem drachmref08_note.tab2 : rtab .any (opsOf Tryd.f42 2) = drachmref08_note.T2 := by kernel_rfl
theorem drachmref08_note.bits2 : waitsOk drachmref08_note.T2.2 drachmref08_note.B2 = true := by kernel_rfl
set_option maxHeartbeats 8000000 in
set_option maxRecDepth 100000 in
theorem drachmref08_note.calls (k : Nat) (a0 : Int) (a1 : ByteArray) (a2 : Int) (r1 : Int) (r2 : Int) (r3 : ByteArray) (r4 : Int) (r5 : Int) (w : World) (h : drachmref08_note.f k a0 a1 a2 = some (r1, r2, r3, r4, r5)) :
  Calls Tryd.prog 42 #[.int .i64 a0, .string a1, .int .i64 a2] w fun e w' => e = .returned (.agg #[.int .i64 r1, .int .i64 r2, .string r3, .int .i64 r4, .int .i64 r5]) ∧ Below w.heap.size w w' := by
 have hu69 := Tryd.underlying69
 have hu31 := Tryd.underlying31
 have hfd38_5 : ∀ (y0_ y1_ y2_ y3_ y4_ y5_ : Value) (W : World), (Instr.field 38 (.agg #[y0_, y1_, y2_, y3_, y4_, y5_]) 5).run Tryd.prog W = .ok (y5_) W := by intro y0_ y1_ y2_ y3_ y4_ y5_ W; first | kernel_rfl | rfl
 have HB := Aside0.mk (Below.refl w.heap.size w)
 have H : (drachmref08_note.l0 k a0 a1 a2 (wrap64 (a2 + 1))) = some (r1, r2, r3, r4, r5) := h
 clear h
 have HC4 := Aside0.mk H
 clear H
 go_enter Tryd.func42, Tryd.ntmps42
 go_upto_block 0 with (first | ((with_reducible refine gate_dst (N := 6) rfl ?_); refine box_event ?hg (N := 6) ?hd (cs := #[.int .i64 0, .int .i64 0, .string (⟨#[]⟩ : ByteArray), .int .i64 0, .int .i64 0]) (t := 69) ?hr ?_; (case hd => rfl); (case hg => rfl); (case hr => first | (go_simp; done) | (go_simp; rfl)); intro gb103 hg w5 hbox hb; have n0_ := sb HB hb; have n1_ := Aside0.mk (hbox); have n2_ := Aside0.mk ((by rw [hg]; exact (below_size (bl HB.out)) : w.heap.size ≤ gb103)); have n3_ := Aside0.mk ((by rw [hg]; exact (below_size (bl HB.out)) : w.heap.size ≤ gb103)); clear HB; have HB := n0_; have BK103 := n1_; have GW103 := n2_; have GE103 := n3_; clear n0_ n1_ n2_ n3_; clear hb hbox hg))
 (try simp only [Act.put, List.setIfInBounds_toArray, List.set_cons_zero, List.set_cons_succ])
 go_cut [7] (fun v7 wc => ∃ (kq : Nat) (x7_3 : Int), v7 = .int .i64 x7_3 ∧ Aside0 (drachmref08_note.j1 kq a0 a1 a2 x7_3 = some (r1, r2, r3, r4, r5)) ∧ Aside0 (kq ≤ k) ∧ Aside0 (wc.heap[gb103]? = some (.cells #[.int .i64 0, .int .i64 0, .string (⟨#[]⟩ : ByteArray), .int .i64 0, .int .i64 0] 69 (0, 0))) ∧ Aside0 (Below w.heap.size w wc))
 case first =>
  have H := HC4.out
  clear HC4
  have H' := Aside0.mk H
  clear H
  go_wp2
  go_loopg [7] k (fun kq v7 w' => ∃ (x7_1 : Int), v7 = .int .i64 x7_1 ∧ Aside0 (drachmref08_note.l0 kq a0 a1 a2 x7_1 = some (r1, r2, r3, r4, r5)) ∧ Aside0 (kq ≤ k) ∧ Aside0 (w'.heap[gb103]? = some (.cells #[.int .i64 0, .int .i64 0, .string (⟨#[]⟩ : ByteArray), .int .i64 0, .int .i64 0] 69 (0, 0))) ∧ Aside0 (Below w.heap.size w w'))
  case atStart => exact ⟨(wrap64 (a2 + 1)), (by first | rfl | (simp; done) | (simp [*]; done)), H', ⟨Nat.le_refl _⟩, ⟨kp BK103.out⟩, ⟨bl HB.out⟩⟩
  case round =>
   clear H'
   try clear p2
   try clear c4
   obtain ⟨x7_1, rfl, HA, HK1, BK103, HB⟩ := hrel
   cases gk with
   | zero => exact absurd HA.out (by simp [drachmref08_note.l0])
   | succ k1 =>
    have H := HA.out
    clear HA
    simp only [drachmref08_note.l0] at H
    by_cases c6 : x7_1 < (a1.size : Int)
    ·rw [if_pos c6] at H
     have c6b0 : decide (x7_1 < (a1.size : Int)) = true := decide_eq_true c6
     clear c6
     (first | rw [c6b0] | (simp only [i64_w, i32_w]; rw [c6b0]) | skip)
     by_cases c7 : 0 ≤ x7_1
     ·rw [if_pos c7] at H
      have c7b0 : decide (0 ≤ x7_1) = true := decide_eq_true c7
      clear c7
      replace H := Option.bind_eq_some_iff.mp H
      obtain ⟨⟨t104, t105, t106, t107, t108, t109⟩, A90, H⟩ := H
      replace H : (if (bt a1 x7_1) = t109 then (drachmref08_note.j1 k1 a0 a1 a2 x7_1) else (drachmref08_note.l0 k1 a0 a1 a2 (wrap64 (x7_1 + 1)))) = some (r1, r2, r3, r4, r5) := H
      have A9 := Aside0.mk A90
      clear A90
      by_cases c10 : (bt a1 x7_1) = t109
      ·rw [if_pos c10] at H
       have c10b0 : ((bt a1 x7_1) == t109) = true := beq_iff_eq.mpr c10
       have c10b1 : ((bt a1 x7_1) != t109) = false := bne_eq_false_iff_eq.mpr c10
       clear c10
       have H' := Aside0.mk H
       clear H
       try go_wp2
       (try (rw [drewN_self wr]; generalize hq_ : World.drewN wr _ = wr; replace BK103 := Aside0.mk (kq hq_ BK103.out); replace HB := Aside0.mk (bq hq_ HB.out); clear hq_))
       replace BK103 := Aside0.mk (blk_drew BK103.out)
       replace HB := Aside0.mk (below_drew1 HB.out)
       have p8 : 0 ≤ (x7_1 : Int) := of_decide_eq_true (by first | (with_reducible assumption) | assumption)
       have q8 : x7_1 < (a1.size : Int) := of_decide_eq_true (by first | (with_reducible assumption) | assumption)
       have hx8 := bt_at a1 x7_1
       replace p8 := eq_true p8
       replace q8 := eq_true q8
       refine start_ (n := 13) (S := fun w' => True) (ds := []) #[false, false, false, false, false, false, false, false, false, false, false, false, false] (by kernel_rfl) rfl rfl trivial (fun hHeld => ?_); refine with_tabW drachmref08_note.tab2 drachmref08_note.bits2 (fun HT_ HW_ => ?_)
       generalize wr.drew = w11 at BK103 HB hHeld ⊢
       refine pure_ (i := 0) (N := some 12) (v := ?_) (a' := ?_) #[true, false, false, false, false, false, false, false, false, false, false, false, false] rfl rfl (any_of HT_.out (by kernel_rfl)) (fun _ _ _ h => h) (Or.inl ⟨by rfl, ?_⟩) ?_ ?_
       rotate_left
       ·intro w'
        go_simp
        first | with_reducible rfl | (rw [if_neg (by simp only [lit_size, List.length_cons, List.length_nil, ByteArray.size_extract, ByteArray.size_append, eq_iff_iff, iff_true, iff_false] at *; omega)])
       rotate_left
       ·simp only [Act.put, List.setIfInBounds_toArray, List.set_cons_zero, List.set_cons_succ, i64_w, i32_w]
        rfl
       refine pure_ (i := 1) (N := some 13) (v := ?_) (a' := ?_) #[true, true, false, false, false, false, false, false, false, false, false, false, false] rfl rfl (any_of HT_.out (by kernel_rfl)) (fun _ _ _ h => h) (Or.inl ⟨by rfl, ?_⟩) ?_ ?_
       rotate_left
       ·intro w'
        go_simp
        first | with_reducible rfl | (rw [if_neg (by simp only [lit_size, List.length_cons, List.length_nil, ByteArray.size_extract, ByteArray.size_append, eq_iff_iff, iff_true, iff_false] at *; omega)])
       rotate_left
       ·simp only [Act.put, List.setIfInBounds_toArray, List.set_cons_zero, List.set_cons_succ, i64_w, i32_w]
        rfl
       refine pure_ (i := 2) (N := some 14) (v := ?_) (a' := ?_) #[true, true, true, false, false, false, false, false, false, false, false, false, false] rfl rfl (any_of HT_.out (by kernel_rfl)) (fun _ _ _ h => h) (Or.inl ⟨by rfl, ?_⟩) ?_ ?_
       rotate_left
       ·intro w'
        go_simp
        first | with_reducible rfl | (rw [if_neg (by simp only [lit_size, List.length_cons, List.length_nil, ByteArray.size_extract, ByteArray.size_append, eq_iff_iff, iff_true, iff_false] at *; omega)])
       rotate_left
       ·simp only [Act.put, List.setIfInBounds_toArray, List.set_cons_zero, List.set_cons_succ, i64_w, i32_w]
        rfl
       refine pure_ (i := 3) (N := some 15) (v := ?_) (a' := ?_) #[true, true, true, true, false, false, false, false, false, false, false, false, false] rfl rfl (any_of HT_.out (by kernel_rfl)) (fun _ _ _ h => h) (Or.inl ⟨by rfl, ?_⟩) ?_ ?_
       rotate_left
       ·intro w'
        go_simp
        first | with_reducible rfl | (rw [if_neg (by simp only [lit_size, List.length_cons, List.length_nil, ByteArray.size_extract, ByteArray.size_append, eq_iff_iff, iff_true, iff_false] at *; omega)])
       rotate_left
       ·simp only [Act.put, List.setIfInBounds_toArray, List.set_cons_zero, List.set_cons_succ, i64_w, i32_w]
        rfl
       refine pure_ (i := 4) (N := some 16) (v := ?_) (a' := ?_) #[true, true, true, true, true, false, false, false, false, false, false, false, false] rfl rfl (any_of HT_.out (by kernel_rfl)) (fun _ _ _ h => h) (Or.inl ⟨by rfl, ?_⟩) ?_ ?_
       rotate_left
       ·intro w'
        go_simp
        first | with_reducible rfl | (rw [if_neg (by simp only [lit_size, List.length_cons, List.length_nil, ByteArray.size_extract, ByteArray.size_append, eq_iff_iff, iff_true, iff_false] at *; omega)])
       rotate_left
       ·simp only [Act.put, List.setIfInBounds_toArray, List.set_cons_zero, List.set_cons_succ, i64_w, i32_w]
        rfl
       refine pure_ (i := 5) (N := some 17) (v := ?_) (a' := ?_) #[true, true, true, true, true, true, false, false, false, false, false, false, false] rfl rfl (any_of HT_.out (by kernel_rfl)) (fun _ _ _ h => h) (Or.inl ⟨by rfl, ?_⟩) ?_ ?_
       rotate_left
       ·intro w'
        go_simp
        first | with_reducible rfl | (rw [if_neg (by simp only [lit_size, List.length_cons, List.length_nil, ByteArray.size_extract, ByteArray.size_append, eq_iff_iff, iff_true, iff_false] at *; omega)])
       rotate_left
       ·simp only [Act.put, List.setIfInBounds_toArray, List.set_cons_zero, List.set_cons_succ, i64_w, i32_w]
        rfl
       refine pure_ (i := 6) (N := some 18) (v := ?_) (a' := ?_) #[true, true, true, true, true, true, true, false, false, false, false, false, false] rfl rfl (any_of HT_.out (by kernel_rfl)) (fun _ _ _ h => h) (Or.inl ⟨by rfl, ?_⟩) ?_ ?_
       rotate_left
       ·intro w'
        go_simp
        first | with_reducible rfl | (rw [if_neg (by simp only [lit_size, List.length_cons, List.length_nil, ByteArray.size_extract, ByteArray.size_append, eq_iff_iff, iff_true, iff_false] at *; omega)])
       rotate_left
       ·simp only [Act.put, List.setIfInBounds_toArray, List.set_cons_zero, List.set_cons_succ, i64_w, i32_w]
        rfl
       refine pure_ (i := 8) (N := some 20) (v := ?_) (a' := ?_) #[true, true, true, true, true, true, true, false, true, false, false, false, false] rfl rfl (any_of HT_.out (by kernel_rfl)) (fun _ _ _ h => h) (Or.inl ⟨by rfl, ?_⟩) ?_ ?_
       rotate_left
       ·intro w'
        go_simp
        first | with_reducible rfl | (rw [if_neg (by simp only [lit_size, List.length_cons, List.length_nil, ByteArray.size_extract, ByteArray.size_append, eq_iff_iff, iff_true, iff_false] at *; omega)])
       rotate_left
       ·simp only [Act.put, List.setIfInBounds_toArray, List.set_cons_zero, List.set_cons_succ, i64_w, i32_w]
        rfl
       refine take_ (i := 7) (N := some 19) (v := ?_) (a' := ?_) #[true, true, true, true, true, true, true, true, true, false, false, false, false] rfl rfl (take_ofW HT_.out HW_.out (by kernel_rfl)) (fun _ _ _ h => h) (Or.inl ⟨by rfl, ?_⟩) hHeld ?_ ?_
       rotate_left
       ·intro w' _
        go_simp
        first | with_reducible rfl | (rw [if_neg (by simp only [lit_size, List.length_cons, List.length_nil, ByteArray.size_extract, ByteArray.size_append, eq_iff_iff, iff_true, iff_false] at *; omega)])
       rotate_left
       ·simp only [Act.put, List.setIfInBounds_toArray, List.set_cons_zero, List.set_cons_succ, i64_w, i32_w]
        rfl
       refine one_ (i := 9) (N := some 21) #[true, true, true, true, true, true, true, true, true, true, false, false, false] rfl rfl (one_of HT_.out (by kernel_rfl)) (by decide) (fun K hK => ?_)
       refine goes_ Tryd.func17 (by kernel_rfl) rfl #[.int .i64 a0] (by rfl) rfl rfl (by (try simp only [List.map_toArray, List.map_cons, List.map_nil]); first | done | rfl | (simp only [List.length_drop, List.length_take]; rfl)) ?_
       with_reducible refine (drachmref07_Of.calls a0 t104 t105 t106 t107 t108 t109 _ A9.out).mono ?_
       rintro e w12 ⟨rfl, hb⟩
       refine ⟨_, rfl, ?_⟩
       replace BK103 := kb BK103 hb
       replace HB := sb HB hb
       (try clear hb)
       (try clear hb2)
       (try clear hk)
       (try clear hi)
       refine hK.out _ _ trivial (fun hHeld => ?_)
       clear hK K
       refine norm_ (a' := ?_) ?_ ?_
       rotate_left
       ·show Act.put _ (some 21) _ = _
        simp only [Act.put, List.setIfInBounds_toArray, List.set_cons_zero, List.set_cons_succ, i64_w, i32_w]
        rfl
       refine pure_ (i := 10) (N := some 22) (v := ?_) (a' := ?_) #[true, true, true, true, true, true, true, true, true, true, true, false, false] rfl rfl (any_of HT_.out (by kernel_rfl)) (fun _ _ _ h => h) (Or.inl ⟨by rfl, ?_⟩) ?_ ?_
       rotate_left
       ·intro w'
        go_simp
        first | with_reducible rfl | (rw [if_neg (by simp only [lit_size, List.length_cons, List.length_nil, ByteArray.size_extract, ByteArray.size_append, eq_iff_iff, iff_true, iff_false] at *; omega)])
       rotate_left
       ·simp only [Act.put, List.setIfInBounds_toArray, List.set_cons_zero, List.set_cons_succ, i64_w, i32_w]
        rfl
       refine pure_ (i := 11) (N := some 23) (v := ?_) (a' := ?_) #[true, true, true, true, true, true, true, true, true, true, true, true, false] rfl rfl (any_of HT_.out (by kernel_rfl)) (fun _ _ _ h => h) (Or.inl ⟨by rfl, ?_⟩) ?_ ?_
       rotate_left
       ·intro w'
        go_simp
        first | with_reducible rfl | (rw [if_neg (by simp only [lit_size, List.length_cons, List.length_nil, ByteArray.size_extract, ByteArray.size_append, eq_iff_iff, iff_true, iff_false] at *; omega)])
       rotate_left
       ·simp only [Act.put, List.setIfInBounds_toArray, List.set_cons_zero, List.set_cons_succ, i64_w, i32_w]
        rfl
       refine pure_ (i := 12) (N := some 24) (v := ?_) (a' := ?_) #[true, true, true, true, true, true, true, true, true, true, true, true, true] rfl rfl (any_of HT_.out (by kernel_rfl)) (fun _ _ _ h => h) (Or.inl ⟨by rfl, ?_⟩) ?_ ?_
       rotate_left
       ·intro w'
        go_simp
        first | with_reducible rfl | (rw [if_neg (by simp only [lit_size, List.length_cons, List.length_nil, ByteArray.size_extract, ByteArray.size_append, eq_iff_iff, iff_true, iff_false] at *; omega)])
       rotate_left
       ·simp only [Act.put, List.setIfInBounds_toArray, List.set_cons_zero, List.set_cons_succ, i64_w, i32_w]
        rfl
       refine done_ (done_of HT_.out (by kernel_rfl)) ?_
       try go_wp2
       go_meet
       case rel => exact ⟨_, (x7_1), (by first | rfl | (simp; done) | (simp [*]; done)), H', ⟨by have := HK1.out; first | omega | exact Nat.le_refl _⟩, ⟨kp BK103.out⟩, ⟨bl HB.out⟩⟩
      ·rw [if_neg c10] at H
       have c10b0 : ((bt a1 x7_1) == t109) = false := beq_eq_false_iff_ne.mpr c10
       have c10b1 : ((bt a1 x7_1) != t109) = true := bne_iff_ne.mpr c10
       have H' := Aside0.mk H
       clear H
       try go_wp2
       (try (rw [drewN_self wr]; generalize hq_ : World.drewN wr _ = wr; replace BK103 := Aside0.mk (kq hq_ BK103.out); replace HB := Aside0.mk (bq hq_ HB.out); clear hq_))
       replace BK103 := Aside0.mk (blk_drew BK103.out)
       replace HB := Aside0.mk (below_drew1 HB.out)
       have p8 : 0 ≤ (x7_1 : Int) := of_decide_eq_true (by first | (with_reducible assumption) | assumption)
       have q8 : x7_1 < (a1.size : Int) := of_decide_eq_true (by first | (with_reducible assumption) | assumption)
       have hx8 := bt_at a1 x7_1
       replace p8 := eq_true p8
       replace q8 := eq_true q8
       refine start_ (n := 13) (S := fun w' => True) (ds := []) #[false, false, false, false, false, false, false, false, false, false, false, false, false] (by kernel_rfl) rfl rfl trivial (fun hHeld => ?_); refine with_tabW drachmref08_note.tab2 drachmref08_note.bits2 (fun HT_ HW_ => ?_)
       generalize wr.drew = w13 at BK103 HB hHeld ⊢
       refine pure_ (i := 0) (N := some 12) (v := ?_) (a' := ?_) #[true, false, false, false, false, false, false, false, false, false, false, false, false] rfl rfl (any_of HT_.out (by kernel_rfl)) (fun _ _ _ h => h) (Or.inl ⟨by rfl, ?_⟩) ?_ ?_
       rotate_left
       ·intro w'
        go_simp
        first | with_reducible rfl | (rw [if_neg (by simp only [lit_size, List.length_cons, List.length_nil, ByteArray.size_extract, ByteArray.size_append, eq_iff_iff, iff_true, iff_false] at *; omega)])
       rotate_left
       ·simp only [Act.put, List.setIfInBounds_toArray, List.set_cons_zero, List.set_cons_succ, i64_w, i32_w]
        rfl
       refine pure_ (i := 1) (N := some 13) (v := ?_) (a' := ?_) #[true, true, false, false, false, false, false, false, false, false, false, false, false] rfl rfl (any_of HT_.out (by kernel_rfl)) (fun _ _ _ h => h) (Or.inl ⟨by rfl, ?_⟩) ?_ ?_
       rotate_left
       ·intro w'
        go_simp
        first | with_reducible rfl | (rw [if_neg (by simp only [lit_size, List.length_cons, List.length_nil, ByteArray.size_extract, ByteArray.size_append, eq_iff_iff, iff_true, iff_false] at *; omega)])
       rotate_left
       ·simp only [Act.put, List.setIfInBounds_toArray, List.set_cons_zero, List.set_cons_succ, i64_w, i32_w]
        rfl
       refine pure_ (i := 2) (N := some 14) (v := ?_) (a' := ?_) #[true, true, true, false, false, false, false, false, false, false, false, false, false] rfl rfl (any_of HT_.out (by kernel_rfl)) (fun _ _ _ h => h) (Or.inl ⟨by rfl, ?_⟩) ?_ ?_
       rotate_left
       ·intro w'
        go_simp
        first | with_reducible rfl | (rw [if_neg (by simp only [lit_size, List.length_cons, List.length_nil, ByteArray.size_extract, ByteArray.size_append, eq_iff_iff, iff_true, iff_false] at *; omega)])
       rotate_left
       ·simp only [Act.put, List.setIfInBounds_toArray, List.set_cons_zero, List.set_cons_succ, i64_w, i32_w]
        rfl
       refine pure_ (i := 3) (N := some 15) (v := ?_) (a' := ?_) #[true, true, true, true, false, false, false, false, false, false, false, false, false] rfl rfl (any_of HT_.out (by kernel_rfl)) (fun _ _ _ h => h) (Or.inl ⟨by rfl, ?_⟩) ?_ ?_
       rotate_left
       ·intro w'
        go_simp
        first | with_reducible rfl | (rw [if_neg (by simp only [lit_size, List.length_cons, List.length_nil, ByteArray.size_extract, ByteArray.size_append, eq_iff_iff, iff_true, iff_false] at *; omega)])
       rotate_left
       ·simp only [Act.put, List.setIfInBounds_toArray, List.set_cons_zero, List.set_cons_succ, i64_w, i32_w]
        rfl
       refine pure_ (i := 4) (N := some 16) (v := ?_) (a' := ?_) #[true, true, true, true, true, false, false, false, false, false, false, false, false] rfl rfl (any_of HT_.out (by kernel_rfl)) (fun _ _ _ h => h) (Or.inl ⟨by rfl, ?_⟩) ?_ ?_
       rotate_left
       ·intro w'
        go_simp
        first | with_reducible rfl | (rw [if_neg (by simp only [lit_size, List.length_cons, List.length_nil, ByteArray.size_extract, ByteArray.size_append, eq_iff_iff, iff_true, iff_false] at *; omega)])
       rotate_left
       ·simp only [Act.put, List.setIfInBounds_toArray, List.set_cons_zero, List.set_cons_succ, i64_w, i32_w]
        rfl
       refine pure_ (i := 5) (N := some 17) (v := ?_) (a' := ?_) #[true, true, true, true, true, true, false, false, false, false, false, false, false] rfl rfl (any_of HT_.out (by kernel_rfl)) (fun _ _ _ h => h) (Or.inl ⟨by rfl, ?_⟩) ?_ ?_
       rotate_left
       ·intro w'
        go_simp
        first | with_reducible rfl | (rw [if_neg (by simp only [lit_size, List.length_cons, List.length_nil, ByteArray.size_extract, ByteArray.size_append, eq_iff_iff, iff_true, iff_false] at *; omega)])
       rotate_left
       ·simp only [Act.put, List.setIfInBounds_toArray, List.set_cons_zero, List.set_cons_succ, i64_w, i32_w]
        rfl
       refine pure_ (i := 6) (N := some 18) (v := ?_) (a' := ?_) #[true, true, true, true, true, true, true, false, false, false, false, false, false] rfl rfl (any_of HT_.out (by kernel_rfl)) (fun _ _ _ h => h) (Or.inl ⟨by rfl, ?_⟩) ?_ ?_
       rotate_left
       ·intro w'
        go_simp
        first | with_reducible rfl | (rw [if_neg (by simp only [lit_size, List.length_cons, List.length_nil, ByteArray.size_extract, ByteArray.size_append, eq_iff_iff, iff_true, iff_false] at *; omega)])
       rotate_left
       ·simp only [Act.put, List.setIfInBounds_toArray, List.set_cons_zero, List.set_cons_succ, i64_w, i32_w]
        rfl
       refine pure_ (i := 8) (N := some 20) (v := ?_) (a' := ?_) #[true, true, true, true, true, true, true, false, true, false, false, false, false] rfl rfl (any_of HT_.out (by kernel_rfl)) (fun _ _ _ h => h) (Or.inl ⟨by rfl, ?_⟩) ?_ ?_
       rotate_left
       ·intro w'
        go_simp
        first | with_reducible rfl | (rw [if_neg (by simp only [lit_size, List.length_cons, List.length_nil, ByteArray.size_extract, ByteArray.size_append, eq_iff_iff, iff_true, iff_false] at *; omega)])
       rotate_left
       ·simp only [Act.put, List.setIfInBounds_toArray, List.set_cons_zero, List.set_cons_succ, i64_w, i32_w]
        rfl
       refine take_ (i := 7) (N := some 19) (v := ?_) (a' := ?_) #[true, true, true, true, true, true, true, true, true, false, false, false, false] rfl rfl (take_ofW HT_.out HW_.out (by kernel_rfl)) (fun _ _ _ h => h) (Or.inl ⟨by rfl, ?_⟩) hHeld ?_ ?_
       rotate_left
       ·intro w' _
        go_simp
        first | with_reducible rfl | (rw [if_neg (by simp only [lit_size, List.length_cons, List.length_nil, ByteArray.size_extract, ByteArray.size_append, eq_iff_iff, iff_true, iff_false] at *; omega)])
       rotate_left
       ·simp only [Act.put, List.setIfInBounds_toArray, List.set_cons_zero, List.set_cons_succ, i64_w, i32_w]
        rfl
       refine one_ (i := 9) (N := some 21) #[true, true, true, true, true, true, true, true, true, true, false, false, false] rfl rfl (one_of HT_.out (by kernel_rfl)) (by decide) (fun K hK => ?_)
       refine goes_ Tryd.func17 (by kernel_rfl) rfl #[.int .i64 a0] (by rfl) rfl rfl (by (try simp only [List.map_toArray, List.map_cons, List.map_nil]); first | done | rfl | (simp only [List.length_drop, List.length_take]; rfl)) ?_
       with_reducible refine (drachmref07_Of.calls a0 t104 t105 t106 t107 t108 t109 _ A9.out).mono ?_
       rintro e w14 ⟨rfl, hb⟩
       refine ⟨_, rfl, ?_⟩
       replace BK103 := kb BK103 hb
       replace HB := sb HB hb
       (try clear hb)
       (try clear hb2)
       (try clear hk)
       (try clear hi)
       refine hK.out _ _ trivial (fun hHeld => ?_)
       clear hK K
       refine norm_ (a' := ?_) ?_ ?_
       rotate_left
       ·show Act.put _ (some 21) _ = _
        simp only [Act.put, List.setIfInBounds_toArray, List.set_cons_zero, List.set_cons_succ, i64_w, i32_w]
        rfl
       refine pure_ (i := 10) (N := some 22) (v := ?_) (a' := ?_) #[true, true, true, true, true, true, true, true, true, true, true, false, false] rfl rfl (any_of HT_.out (by kernel_rfl)) (fun _ _ _ h => h) (Or.inl ⟨by rfl, ?_⟩) ?_ ?_
       rotate_left
       ·intro w'
        go_simp
        first | with_reducible rfl | (rw [if_neg (by simp only [lit_size, List.length_cons, List.length_nil, ByteArray.size_extract, ByteArray.size_append, eq_iff_iff, iff_true, iff_false] at *; omega)])
       rotate_left
       ·simp only [Act.put, List.setIfInBounds_toArray, List.set_cons_zero, List.set_cons_succ, i64_w, i32_w]
        rfl
       refine pure_ (i := 11) (N := some 23) (v := ?_) (a' := ?_) #[true, true, true, true, true, true, true, true, true, true, true, true, false] rfl rfl (any_of HT_.out (by kernel_rfl)) (fun _ _ _ h => h) (Or.inl ⟨by rfl, ?_⟩) ?_ ?_
       rotate_left
       ·intro w'
        go_simp
        first | with_reducible rfl | (rw [if_neg (by simp only [lit_size, List.length_cons, List.length_nil, ByteArray.size_extract, ByteArray.size_append, eq_iff_iff, iff_true, iff_false] at *; omega)])
       rotate_left
       ·simp only [Act.put, List.setIfInBounds_toArray, List.set_cons_zero, List.set_cons_succ, i64_w, i32_w]
        rfl
       refine pure_ (i := 12) (N := some 24) (v := ?_) (a' := ?_) #[true, true, true, true, true, true, true, true, true, true, true, true, true] rfl rfl (any_of HT_.out (by kernel_rfl)) (fun _ _ _ h => h) (Or.inl ⟨by rfl, ?_⟩) ?_ ?_
       rotate_left
       ·intro w'
        go_simp
        first | with_reducible rfl | (rw [if_neg (by simp only [lit_size, List.length_cons, List.length_nil, ByteArray.size_extract, ByteArray.size_append, eq_iff_iff, iff_true, iff_false] at *; omega)])
       rotate_left
       ·simp only [Act.put, List.setIfInBounds_toArray, List.set_cons_zero, List.set_cons_succ, i64_w, i32_w]
        rfl
       refine done_ (done_of HT_.out (by kernel_rfl)) ?_
       try go_wp2
       go_roundg k1
       case measure => have := HK1.out; omega
       case rel => exact ⟨(wrap64 (x7_1 + 1)), (by first | rfl | (simp; done) | (simp [*]; done)), H', ⟨by have := HK1.out; omega⟩, ⟨kp BK103.out⟩, ⟨bl HB.out⟩⟩
     ·rw [if_neg c7] at H
      exact absurd H (by simp)
    ·rw [if_neg c6] at H
     have c6b0 : decide (x7_1 < (a1.size : Int)) = false := decide_eq_false c6
     clear c6
     (first | rw [c6b0] | (simp only [i64_w, i32_w]; rw [c6b0]) | skip)
     have H' := Aside0.mk H
     clear H
     try go_wp2
     (try (rw [drewN_self wr]; generalize hq_ : World.drewN wr _ = wr; replace BK103 := Aside0.mk (kq hq_ BK103.out); replace HB := Aside0.mk (bq hq_ HB.out); clear hq_))
     replace BK103 := Aside0.mk (blk_drew BK103.out)
     replace HB := Aside0.mk (below_drew1 HB.out)
     refine start_ (n := 13) (S := fun w' => True) (ds := []) #[false, false, false, false, false, false, false, false, false, false, false, false, false] (by kernel_rfl) rfl rfl trivial (fun hHeld => ?_); refine with_tabW drachmref08_note.tab2 drachmref08_note.bits2 (fun HT_ HW_ => ?_)
     generalize wr.drew = w15 at BK103 HB hHeld ⊢
     refine pure_ (i := 0) (N := some 12) (v := ?_) (a' := ?_) #[true, false, false, false, false, false, false, false, false, false, false, false, false] rfl rfl (any_of HT_.out (by kernel_rfl)) (fun _ _ _ h => h) (Or.inl ⟨by rfl, ?_⟩) ?_ ?_
     rotate_left
     ·intro w'
      go_simp
      first | with_reducible rfl | (rw [if_neg (by simp only [lit_size, List.length_cons, List.length_nil, ByteArray.size_extract, ByteArray.size_append, eq_iff_iff, iff_true, iff_false] at *; omega)])
     rotate_left
     ·simp only [Act.put, List.setIfInBounds_toArray, List.set_cons_zero, List.set_cons_succ, i64_w, i32_w]
      rfl
     refine pure_ (i := 1) (N := some 13) (v := ?_) (a' := ?_) #[true, true, false, false, false, false, false, false, false, false, false, false, false] rfl rfl (any_of HT_.out (by kernel_rfl)) (fun _ _ _ h => h) (Or.inl ⟨by rfl, ?_⟩) ?_ ?_
     rotate_left
     ·intro w'
      go_simp
      first | with_reducible rfl | (rw [if_neg (by simp only [lit_size, List.length_cons, List.length_nil, ByteArray.size_extract, ByteArray.size_append, eq_iff_iff, iff_true, iff_false] at *; omega)])
     rotate_left
     ·simp only [Act.put, List.setIfInBounds_toArray, List.set_cons_zero, List.set_cons_succ, i64_w, i32_w]
      rfl
     refine pure_ (i := 2) (N := some 14) (v := ?_) (a' := ?_) #[true, true, true, false, false, false, false, false, false, false, false, false, false] rfl rfl (any_of HT_.out (by kernel_rfl)) (fun _ _ _ h => h) (Or.inl ⟨by rfl, ?_⟩) ?_ ?_
     rotate_left
     ·intro w'
      go_simp
      first | with_reducible rfl | (rw [if_neg (by simp only [lit_size, List.length_cons, List.length_nil, ByteArray.size_extract, ByteArray.size_append, eq_iff_iff, iff_true, iff_false] at *; omega)])
     rotate_left
     ·simp only [Act.put, List.setIfInBounds_toArray, List.set_cons_zero, List.set_cons_succ, i64_w, i32_w]
      rfl
     refine pure_ (i := 3) (N := some 15) (v := ?_) (a' := ?_) #[true, true, true, true, false, false, false, false, false, false, false, false, false] rfl rfl (any_of HT_.out (by kernel_rfl)) (fun _ _ _ h => h) (Or.inl ⟨by rfl, ?_⟩) ?_ ?_
     rotate_left
     ·intro w'
      go_simp
      first | with_reducible rfl | (rw [if_neg (by simp only [lit_size, List.length_cons, List.length_nil, ByteArray.size_extract, ByteArray.size_append, eq_iff_iff, iff_true, iff_false] at *; omega)])
     rotate_left
     ·simp only [Act.put, List.setIfInBounds_toArray, List.set_cons_zero, List.set_cons_succ, i64_w, i32_w]
      rfl
     refine pure_ (i := 4) (N := some 16) (v := ?_) (a' := ?_) #[true, true, true, true, true, false, false, false, false, false, false, false, false] rfl rfl (any_of HT_.out (by kernel_rfl)) (fun _ _ _ h => h) (Or.inl ⟨by rfl, ?_⟩) ?_ ?_
     rotate_left
     ·intro w'
      go_simp
      first | with_reducible rfl | (rw [if_neg (by simp only [lit_size, List.length_cons, List.length_nil, ByteArray.size_extract, ByteArray.size_append, eq_iff_iff, iff_true, iff_false] at *; omega)])
     rotate_left
     ·simp only [Act.put, List.setIfInBounds_toArray, List.set_cons_zero, List.set_cons_succ, i64_w, i32_w]
      rfl
     refine pure_ (i := 5) (N := some 17) (v := undef) (a' := ?_) #[true, true, true, true, true, true, false, false, false, false, false, false, false] rfl rfl (any_of HT_.out (by kernel_rfl)) (fun _ _ _ h => h) (Or.inr ⟨by rfl, rfl⟩) ?_ ?_
     rotate_left
     ·simp only [Act.put, List.setIfInBounds_toArray, List.set_cons_zero, List.set_cons_succ, i64_w, i32_w]
      rfl
     refine pure_ (i := 6) (N := some 18) (v := undef) (a' := ?_) #[true, true, true, true, true, true, true, false, false, false, false, false, false] rfl rfl (any_of HT_.out (by kernel_rfl)) (fun _ _ _ h => h) (Or.inr ⟨by rfl, rfl⟩) ?_ ?_
     rotate_left
     ·simp only [Act.put, List.setIfInBounds_toArray, List.set_cons_zero, List.set_cons_succ, i64_w, i32_w]
      rfl
     refine pure_ (i := 7) (N := some 19) (v := undef) (a' := ?_) #[true, true, true, true, true, true, true, true, false, false, false, false, false] rfl rfl (any_of HT_.out (by kernel_rfl)) (fun _ _ _ h => h) (Or.inr ⟨by rfl, rfl⟩) ?_ ?_
     rotate_left
     ·simp only [Act.put, List.setIfInBounds_toArray, List.set_cons_zero, List.set_cons_succ, i64_w, i32_w]
      rfl
     refine pure_ (i := 8) (N := some 20) (v := undef) (a' := ?_) #[true, true, true, true, true, true, true, true, true, false, false, false, false] rfl rfl (any_of HT_.out (by kernel_rfl)) (fun _ _ _ h => h) (Or.inr ⟨by rfl, rfl⟩) ?_ ?_
     rotate_left
     ·simp only [Act.put, List.setIfInBounds_toArray, List.set_cons_zero, List.set_cons_succ, i64_w, i32_w]
      rfl
     refine pure_ (i := 9) (N := some 21) (v := undef) (a' := ?_) #[true, true, true, true, true, true, true, true, true, true, false, false, false] rfl rfl (any_of HT_.out (by kernel_rfl)) (fun _ _ _ h => h) (Or.inr ⟨by rfl, rfl⟩) ?_ ?_
     rotate_left
     ·simp only [Act.put, List.setIfInBounds_toArray, List.set_cons_zero, List.set_cons_succ, i64_w, i32_w]
      rfl
     refine pure_ (i := 10) (N := some 22) (v := undef) (a' := ?_) #[true, true, true, true, true, true, true, true, true, true, true, false, false] rfl rfl (any_of HT_.out (by kernel_rfl)) (fun _ _ _ h => h) (Or.inr ⟨by rfl, rfl⟩) ?_ ?_
     rotate_left
     ·simp only [Act.put, List.setIfInBounds_toArray, List.set_cons_zero, List.set_cons_succ, i64_w, i32_w]
      rfl
     refine pure_ (i := 11) (N := some 23) (v := undef) (a' := ?_) #[true, true, true, true, true, true, true, true, true, true, true, true, false] rfl rfl (any_of HT_.out (by kernel_rfl)) (fun _ _ _ h => h) (Or.inr ⟨by rfl, rfl⟩) ?_ ?_
     rotate_left
     ·simp only [Act.put, List.setIfInBounds_toArray, List.set_cons_zero, List.set_cons_succ, i64_w, i32_w]
      rfl
     refine pure_ (i := 12) (N := some 24) (v := ?_) (a' := ?_) #[true, true, true, true, true, true, true, true, true, true, true, true, true] rfl rfl (any_of HT_.out (by kernel_rfl)) (fun _ _ _ h => h) (Or.inl ⟨by rfl, ?_⟩) ?_ ?_
     rotate_left
     ·intro w'
      go_simp
      first | with_reducible rfl | (rw [if_neg (by simp only [lit_size, List.length_cons, List.length_nil, ByteArray.size_extract, ByteArray.size_append, eq_iff_iff, iff_true, iff_false] at *; omega)])
     rotate_left
     ·simp only [Act.put, List.setIfInBounds_toArray, List.set_cons_zero, List.set_cons_succ, i64_w, i32_w]
      rfl
     refine done_ (done_of HT_.out (by kernel_rfl)) ?_
     try go_wp2
     go_meet
     case rel => exact ⟨_, (x7_1), (by first | rfl | (simp; done) | (simp [*]; done)), H', ⟨by have := HK1.out; first | omega | exact Nat.le_refl _⟩, ⟨kp BK103.out⟩, ⟨bl HB.out⟩⟩
 case rest =>
  clear HC4
  try clear c1
  try clear p2
  try clear c4
  try clear c6
  try clear c6b0
  try clear p6
  try clear c7
  try clear c7b0
  try clear p8
  try clear q8
  try clear hx8
  try clear c10
  try clear c10b0
  try clear c10b1
  try clear p2
  try clear p8
  try clear q8
  obtain ⟨kq, x7_3, rfl, HA, HJ3, BK103, HB⟩ := hcut
  cases kq with
  | zero => exact absurd HA.out (by simp [drachmref08_note.j1])
  | succ kj3 =>
   have H := HA.out
   clear HA
   simp only [drachmref08_note.j1] at H
   by_cases c16 : x7_3 ≥ (a1.size : Int)
   ·rw [if_pos c16] at H
    have c16b0 : decide ((a1.size : Int) ≤ x7_3) = true := decide_eq_true c16
    clear c16
    simp only [Option.some.injEq, Prod.mk.injEq] at H
    obtain ⟨rfl, rfl, rfl, rfl, rfl⟩ := H
    obtain ⟨hcz17_0, hcz17_1, hcz17_2, hcz17_3, hcz17_4⟩ := hc5 BK103.out
    obtain ⟨hfz17_0, hfz17_1, hfz17_2, hfz17_3, hfz17_4⟩ := hf5 BK103.out
    go_wp2
    refine bodyPost_ret (results_cell_row rfl _ _ gb103 69 #[.int .i64 0, .int .i64 0, .string (⟨#[]⟩ : ByteArray), .int .i64 0, .int .i64 0] (0, 0) _ rfl (kp (p5_4 (kp (p5_3 (kp (p5_2 (kp (p5_1 (kp (p5_0 (kp BK103.out))))))))))) Tryd.underlying69 rfl (by kernel_rfl)) rfl ?_
    exact ⟨by first | rfl | (simp [errW_none, errW_some] <;> rfl) | (simp [*, errW_none, errW_some] <;> rfl), bl HB.out⟩
   ·rw [if_neg c16] at H
    have c16b0 : decide ((a1.size : Int) ≤ x7_3) = false := decide_eq_false c16
    clear c16
    obtain ⟨ji18, hji18⟩ : ∃ j_ : Int, (wrap64 (a2 + 1)) = j_ := ⟨_, rfl⟩
    replace H : (if 0 ≤ (ji18) then (if (ji18) ≤ x7_3 then (if x7_3 ≤ (a1.size : Int) then ((drachmref07_Plain.f kj3 a0 (a1.extract ((ji18) : Int).toNat (x7_3 : Int).toNat)).bind fun t110 => (if t110 = true then (some (9, a2, a1.extract ((ji18) : Int).toNat (x7_3 : Int).toNat, 0, wrap64 ((wrap64 (x7_3 + 1)) - a2))) else (some (0, 0, (⟨#[]⟩ : ByteArray), 0, 0)))) else (none)) else (none)) else (none)) = some (r1, r2, r3, r4, r5) := by first | (rw [hji18] at H; exact H) | (simp only [hji18] at H ⊢; exact H)
    have hji18w : (IntKind.i64.wrap (a2 + 1)) = ji18 := (i64_w _).trans hji18
    by_cases c19 : 0 ≤ (ji18)
    ·rw [if_pos c19] at H
     have c19b0 := eq_true c19
     have c19b1 : decide (0 ≤ (ji18)) = true := decide_eq_true c19
     clear c19
     by_cases c20 : (ji18) ≤ x7_3
     ·rw [if_pos c20] at H
      have c20b0 := eq_true c20
      have c20b1 : decide ((ji18) ≤ x7_3) = true := decide_eq_true c20
      clear c20
      by_cases c21 : x7_3 ≤ (a1.size : Int)
      ·rw [if_pos c21] at H
       have c21b0 := eq_true c21
       have c21b1 : decide (x7_3 ≤ (a1.size : Int)) = true := decide_eq_true c21
       clear c21
       replace H := Option.bind_eq_some_iff.mp H
       obtain ⟨t110, A220, H⟩ := H
       replace H : (if t110 = true then (some (9, a2, a1.extract ((ji18) : Int).toNat (x7_3 : Int).toNat, 0, wrap64 ((wrap64 (x7_3 + 1)) - a2))) else (some (0, 0, (⟨#[]⟩ : ByteArray), 0, 0))) = some (r1, r2, r3, r4, r5) := H
       have A22 := Aside0.mk A220
       clear A220
       by_cases c23 : t110 = true
       ·subst c23
        have H1 : (some (9, a2, a1.extract ((ji18) : Int).toNat (x7_3 : Int).toNat, 0, wrap64 ((wrap64 (x7_3 + 1)) - a2))) = some (r1, r2, r3, r4, r5) := by rw [if_pos rfl] at H; exact H
        clear H
        have H := H1
        clear H1
        simp only [Option.some.injEq, Prod.mk.injEq] at H
        obtain ⟨rfl, rfl, rfl, rfl, rfl⟩ := H
        go_wp2_with (first | ((with_reducible refine gate_callee (f := 19) rfl ?_); refine goesL_ (some 39) rfl rfl Tryd.func19 (by kernel_rfl) rfl #[.int .i64 a0, .string (a1.extract ((ji18) : Int).toNat (x7_3 : Int).toNat)] rfl (by (try simp only [List.map_toArray, List.map_cons, List.map_nil]); first | done | (simp only [hji18]; rfl) | rfl | (simp only [List.length_drop, List.length_take]; rfl)) ?_; (with_reducible refine (drachmref07_Plain.calls kj3 a0 (a1.extract ((ji18) : Int).toNat (x7_3 : Int).toNat) true _ A22.out).mono ?_); rintro e w24 ⟨rfl, hb⟩; refine ⟨_, rfl, ?_⟩; replace BK103 := kb BK103 hb; replace HB := sb HB hb; (try clear hb); (try clear hb2); (try clear hk); (try clear hi); obtain ⟨hcz25_0, hcz25_1, hcz25_2, hcz25_3, hcz25_4⟩ := hc5 BK103.out; obtain ⟨hfz25_0, hfz25_1, hfz25_2, hfz25_3, hfz25_4⟩ := hf5 BK103.out))
        refine bodyPost_ret (results_cell_row rfl _ _ gb103 69 #[.int .i64 9, .int .i64 a2, .string (a1.extract ((ji18) : Int).toNat (x7_3 : Int).toNat), .int .i64 0, .int .i64 (wrap64 ((wrap64 (x7_3 + 1)) - a2))] (0, 0) _ rfl (kp (p5_4 (kp (p5_3 (kp (p5_2 (kp (p5_1 (kp (p5_0 (kp BK103.out))))))))))) Tryd.underlying69 rfl (by kernel_rfl)) rfl ?_
        exact ⟨by first | rfl | (simp [errW_none, errW_some] <;> rfl) | (simp only [← hji18]; first | rfl | (simp [errW_none, errW_some] <;> rfl)) | (simp [*, errW_none, errW_some] <;> rfl), bl HB.out⟩
       ·replace c23 := Bool.eq_false_iff.mpr c23
        subst c23
        have H1 : (some (0, 0, (⟨#[]⟩ : ByteArray), 0, 0)) = some (r1, r2, r3, r4, r5) := by rw [if_neg (show ¬ (false = true) by decide)] at H; exact H
        clear H
        have H := H1
        clear H1
        simp only [Option.some.injEq, Prod.mk.injEq] at H
        obtain ⟨rfl, rfl, rfl, rfl, rfl⟩ := H
        go_wp2_with (first | ((with_reducible refine gate_callee (f := 19) rfl ?_); refine goesL_ (some 39) rfl rfl Tryd.func19 (by kernel_rfl) rfl #[.int .i64 a0, .string (a1.extract ((ji18) : Int).toNat (x7_3 : Int).toNat)] rfl (by (try simp only [List.map_toArray, List.map_cons, List.map_nil]); first | done | (simp only [hji18]; rfl) | rfl | (simp only [List.length_drop, List.length_take]; rfl)) ?_; (with_reducible refine (drachmref07_Plain.calls kj3 a0 (a1.extract ((ji18) : Int).toNat (x7_3 : Int).toNat) false _ A22.out).mono ?_); rintro e w26 ⟨rfl, hb⟩; refine ⟨_, rfl, ?_⟩; replace BK103 := kb BK103 hb; replace HB := sb HB hb; (try clear hb); (try clear hb2); (try clear hk); (try clear hi); obtain ⟨hcz27_0, hcz27_1, hcz27_2, hcz27_3, hcz27_4⟩ := hc5 BK103.out; obtain ⟨hfz27_0, hfz27_1, hfz27_2, hfz27_3, hfz27_4⟩ := hf5 BK103.out))
        refine bodyPost_ret (results_cell_row rfl _ _ gb103 69 #[.int .i64 0, .int .i64 0, .string (⟨#[]⟩ : ByteArray), .int .i64 0, .int .i64 0] (0, 0) _ rfl (kp (p5_4 (kp (p5_3 (kp (p5_2 (kp (p5_1 (kp (p5_0 (kp BK103.out))))))))))) Tryd.underlying69 rfl (by kernel_rfl)) rfl ?_
        exact ⟨by first | rfl | (simp [errW_none, errW_some] <;> rfl) | (simp only [← hji18]; first | rfl | (simp [errW_none, errW_some] <;> rfl)) | (simp [*, errW_none, errW_some] <;> rfl), bl HB.out⟩
      ·rw [if_neg c21] at H
       exact absurd H (by simp)
     ·rw [if_neg c20] at H
      exact absurd H (by simp)
    ·rw [if_neg c19] at H
     exact absurd H (by simp)

/-! ### drachmref08_Next: function 30 -/
def drachmref08_Next.j0 : Nat → Int → ByteArray → Int → Int → Bool → Option (Int × Int × ByteArray × Int × Int)
 | 0, _, _, _, _, _ => none
 | k + 1, x0, x1, x2, x14, x15 => if x15 = true then (some (0, 0, (⟨#[]⟩ : ByteArray), 0, 0)) else (if x14 = 1 then ((drachmref08_goes.f k x0 x1 x2 1).bind fun t113 => (if 0 ≤ x2 then (if x2 ≤ (wrap64 (x2 + t113)) then (if (wrap64 (x2 + t113)) ≤ (x1.size : Int) then ((drachmref07_Raise.f k x0 (x1.extract (x2 : Int).toNat ((wrap64 (x2 + t113)) : Int).toNat)).bind fun t114 => (some (1, x2, t114, 0, t113))) else (none)) else (none)) else (none))) else (if x14 = 2 then ((drachmref08_goes.f k x0 x1 x2 2).bind fun t115 => (if 0 ≤ x2 then (if x2 ≤ (wrap64 (x2 + t115)) then (if (wrap64 (x2 + t115)) ≤ (x1.size : Int) then ((drachmref08_number.f k (x1.extract (x2 : Int).toNat ((wrap64 (x2 + t115)) : Int).toNat)).bind fun bt116 => (if bt116.2 = true then (some (2, x2, x1.extract (x2 : Int).toNat ((wrap64 (x2 + t115)) : Int).toNat, bt116.1, t115)) else (some (0, 0, (⟨#[]⟩ : ByteArray), 0, 0)))) else (none)) else (none)) else (none))) else (if x14 = 9 then ((drachmref08_note.f k x0 x1 x2).bind fun bt119 => (some (bt119.1, bt119.2.1, bt119.2.2.1, bt119.2.2.2.1, bt119.2.2.2.2))) else (if 0 ≤ x2 then (if x2 < (x1.size : Int) then ((drachmref07_Kind.f k x0 (bt x1 x2)).bind fun t124 => (if x2 ≤ (wrap64 (x2 + 1)) then (if (wrap64 (x2 + 1)) ≤ (x1.size : Int) then (some (t124, x2, x1.extract (x2 : Int).toNat ((wrap64 (x2 + 1)) : Int).toNat, 0, 1)) else (none)) else (none))) else (none)) else (none)))))
def drachmref08_Next.f (k : Nat) (a0 : Int) (a1 : ByteArray) (a2 : Int) : Option (Int × Int × ByteArray × Int × Int) := if 0 ≤ a2 then (if a2 < (a1.size : Int) then ((drachmref07_Kind.f k a0 (bt a1 a2)).bind fun t112 => (if t112 = 0 then (drachmref08_Next.j0 k a0 a1 a2 t112 (t112 == 0)) else (drachmref08_Next.j0 k a0 a1 a2 t112 (t112 == 10)))) else (none)) else (none)
theorem drachmref08_Next.mono_l : ∀ k, (∀ y0 y1 y2 y3 y4, LeO (drachmref08_Next.j0 k y0 y1 y2 y3 y4) (drachmref08_Next.j0 (k + 1) y0 y1 y2 y3 y4))
 | 0 => fun _ _ _ _ _ r h => by simp [drachmref08_Next.j0] at h
 | k + 1 => by
  have ih0 := drachmref08_Next.mono_l k
  ·intro y0 y1 y2 y3 y4
   unfold drachmref08_Next.j0
   repeat' first
   | (with_reducible exact ih0 _ _ _ _ _)
   | (with_reducible exact drachmref07_Kind.mono _ _ _)
   | (with_reducible exact drachmref07_Raise.mono _ _ _)
   | (with_reducible exact drachmref08_goes.mono _ _ _ _ _)
   | (with_reducible exact drachmref08_note.mono _ _ _ _)
   | (with_reducible exact drachmref08_number.mono _ _)
   | (with_reducible exact LeO.refl _)
   | (with_reducible exact LeO.none _)
   | (with_reducible refine LeO.ite ?_ ?_)
   | (with_reducible refine LeO.bind ?_ (fun _ => ?_))
   | exact ih0 _ _ _ _ _
   | exact drachmref07_Kind.mono _ _ _
   | exact drachmref07_Raise.mono _ _ _
   | exact drachmref08_goes.mono _ _ _ _ _
   | exact drachmref08_note.mono _ _ _ _
   | exact drachmref08_number.mono _ _
   | exact LeO.none _
   | refine LeO.ite ?_ ?_
   | refine LeO.bind ?_ (fun _ => ?_)
theorem drachmref08_Next.mono : ∀ a0 a1 a2 k, LeO (drachmref08_Next.f k a0 a1 a2) (drachmref08_Next.f (k + 1) a0 a1 a2) := by
 intro a0 a1 a2 k
 have ih0 := drachmref08_Next.mono_l k
 unfold drachmref08_Next.f
 repeat' first
   | (with_reducible exact ih0 _ _ _ _ _)
   | (with_reducible exact drachmref07_Kind.mono _ _ _)
   | (with_reducible exact drachmref07_Raise.mono _ _ _)
   | (with_reducible exact drachmref08_goes.mono _ _ _ _ _)
   | (with_reducible exact drachmref08_note.mono _ _ _ _)
   | (with_reducible exact drachmref08_number.mono _ _)
   | (with_reducible exact LeO.refl _)
   | (with_reducible exact LeO.none _)
   | (with_reducible refine LeO.ite ?_ ?_)
   | (with_reducible refine LeO.bind ?_ (fun _ => ?_))
   | exact ih0 _ _ _ _ _
   | exact drachmref07_Kind.mono _ _ _
   | exact drachmref07_Raise.mono _ _ _
   | exact drachmref08_goes.mono _ _ _ _ _
   | exact drachmref08_note.mono _ _ _ _
   | exact drachmref08_number.mono _ _
   | exact LeO.none _
   | refine LeO.ite ?_ ?_
   | refine LeO.bind ?_ (fun _ => ?_)
def drachmref08_Next.T13 : Bool × List (List Nat × List Nat) := (true, [([], []), ([], []), ([], []), ([], []), ([], []), ([3, 4], [3, 4]), ([1, 2, 5], [1, 2, 5]), ([], []), ([7], [7]), ([0, 6, 8], [0, 6, 8]), ([], []), ([9, 10], [9, 10]), ([11, 0, 1, 2, 3, 4, 5, 6, 7, 8, 9, 10, 11], [11])])
def drachmref08_Next.B13 : List Nat := [0, 0, 0, 0, 0, 24, 62, 0, 128, 511, 0, 2047, 4095]
theorem drachmref08_Next.tab13 : rtab .any (opsOf Tryd.f30 13) = drachmref08_Next.T13 := by kernel_rfl
theorem drachmref08_Next.bits13 : waitsOk drachmref08_Next.T13.2 drachmref08_Next.B13 = true := by kernel_rfl
def drachmref08_Next.T16 : Bool × List (List Nat × List Nat) := (true, [([], []), ([], []), ([], []), ([1, 2], [1, 2]), ([0, 3], [0, 3]), ([], []), ([], []), ([], []), ([], []), ([8], [8]), ([6, 7, 9], [6, 7, 9]), ([4, 5, 10], [4, 5, 10]), ([11], [11]), ([12, 4, 0, 1, 2, 3, 4, 5, 6, 7, 8, 9, 10, 11, 12], [12])])
def drachmref08_Next.B16 : List Nat := [0, 0, 0, 6, 15, 0, 0, 0, 0, 256, 960, 2047, 4095, 8191]
theorem drachmref08_Next.tab16 : rtab .any (opsOf Tryd.f30 16) = drachmref08_Next.T16 := by kernel_rfl
theorem drachmref08_Next.bits16 : waitsOk drachmref08_Next.T16.2 drachmref08_Next.B16 = true := by kernel_rfl
set_option maxHeartbeats 8000000 in
set_option maxRecDepth 100000 in
theorem drachmref08_Next.calls (k : Nat) (a0 : Int) (a1 : ByteArray) (a2 : Int) (r1 : Int) (r2 : Int) (r3 : ByteArray) (r4 : Int) (r5 : Int) (w : World) (h : drachmref08_Next.f k a0 a1 a2 = some (r1, r2, r3, r4, r5)) :
  Calls Tryd.prog 30 #[.int .i64 a0, .string a1, .int .i64 a2] w fun e w' => e = .returned (.agg #[.int .i64 r1, .int .i64 r2, .string r3, .int .i64 r4, .int .i64 r5]) ∧ Below w.heap.size w w' := by
 have hu69 := Tryd.underlying69
 have hu31 := Tryd.underlying31
 have hu81 := Tryd.underlying81
 have HB := Aside0.mk (Below.refl w.heap.size w)
 have H : (if 0 ≤ a2 then (if a2 < (a1.size : Int) then ((drachmref07_Kind.f k a0 (bt a1 a2)).bind fun t112 => (if t112 = 0 then (drachmref08_Next.j0 k a0 a1 a2 t112 (t112 == 0)) else (drachmref08_Next.j0 k a0 a1 a2 t112 (t112 == 10)))) else (none)) else (none)) = some (r1, r2, r3, r4, r5) := h
 clear h
 by_cases c4 : 0 ≤ a2
 ·rw [if_pos c4] at H
  have c4b0 : decide (0 ≤ a2) = true := decide_eq_true c4
  clear c4
  by_cases c5 : a2 < (a1.size : Int)
  ·rw [if_pos c5] at H
   have c5b0 : decide (a2 < (a1.size : Int)) = true := decide_eq_true c5
   clear c5
   replace H := Option.bind_eq_some_iff.mp H
   obtain ⟨t112, A70, H⟩ := H
   replace H : (if t112 = 0 then (drachmref08_Next.j0 k a0 a1 a2 t112 (t112 == 0)) else (drachmref08_Next.j0 k a0 a1 a2 t112 (t112 == 10))) = some (r1, r2, r3, r4, r5) := H
   have A7 := Aside0.mk A70
   clear A70
   have HC8 := Aside0.mk H
   clear H
   go_enter Tryd.func30, Tryd.ntmps30
   go_upto_if 15 with (first | ((with_reducible refine gate_dst (N := 6) rfl ?_); refine box_event ?hg (N := 6) ?hd (cs := #[.int .i64 0, .int .i64 0, .string (⟨#[]⟩ : ByteArray), .int .i64 0, .int .i64 0]) (t := 69) ?hr ?_; (case hd => rfl); (case hg => rfl); (case hr => first | (go_simp; done) | (go_simp; rfl)); intro gb111 hg w9 hbox hb; have n0_ := sb HB hb; have n1_ := Aside0.mk (hbox); have n2_ := Aside0.mk ((by rw [hg]; exact (below_size (bl HB.out)) : w.heap.size ≤ gb111)); have n3_ := Aside0.mk ((by rw [hg]; exact (below_size (bl HB.out)) : w.heap.size ≤ gb111)); clear HB; have HB := n0_; have BK111 := n1_; have GW111 := n2_; have GE111 := n3_; clear n0_ n1_ n2_ n3_; clear hb hbox hg; have p6 : 0 ≤ (a2 : Int) := of_decide_eq_true (by first | (with_reducible assumption) | assumption); have q6 : a2 < (a1.size : Int) := of_decide_eq_true (by first | (with_reducible assumption) | assumption); have hx6 := bt_at a1 a2; replace p6 := eq_true p6; replace q6 := eq_true q6) | (go_at_call 38; (with_reducible refine (drachmref07_Kind.calls k a0 (bt a1 a2) t112 _ A7.out).mono ?_); rintro e w10 ⟨rfl, hb⟩; replace BK111 := kb BK111 hb; replace HB := sb HB hb; (try clear hb); (try clear hb2); (try clear hk); (try clear hi)))
   (try simp only [Act.put, List.setIfInBounds_toArray, List.set_cons_zero, List.set_cons_succ])
   go_cut [15] (fun v15 wc => ∃ (kq : Nat) (x15_7 : Bool), v15 = .bool x15_7 ∧ Aside0 (drachmref08_Next.j0 kq a0 a1 a2 t112 x15_7 = some (r1, r2, r3, r4, r5)) ∧ Aside0 (kq ≤ k) ∧ Aside0 (wc.heap[gb111]? = some (.cells #[.int .i64 0, .int .i64 0, .string (⟨#[]⟩ : ByteArray), .int .i64 0, .int .i64 0] 69 (0, 0))) ∧ Aside0 (Below w.heap.size w wc))
   case first =>
    have H := HC8.out
    clear HC8
    by_cases c11 : t112 = 0
    ·rw [if_pos c11] at H
     have c11b0 : (t112 == 0) = true := beq_iff_eq.mpr c11
     have c11b1 : (t112 != 0) = false := bne_eq_false_iff_eq.mpr c11
     clear c11
     (first | rw [c11b0] | (simp only [i64_w, i32_w]; rw [c11b0]) | skip)
     have H' := Aside0.mk H
     clear H
     go_wp2
     go_meet
     case rel => exact ⟨_, ((t112 == 0)), (by first | rfl | (simp; done) | (simp [*]; done)), H', ⟨by first | omega | exact Nat.le_refl _⟩, ⟨kp BK111.out⟩, ⟨bl HB.out⟩⟩
    ·rw [if_neg c11] at H
     have c11b0 : (t112 == 0) = false := beq_eq_false_iff_ne.mpr c11
     have c11b1 : (t112 != 0) = true := bne_iff_ne.mpr c11
     (first | rw [c11b0] | (simp only [i64_w, i32_w]; rw [c11b0]) | skip)
     have H' := Aside0.mk H
     clear H
     go_wp2
     go_meet
     case rel => exact ⟨_, ((t112 == 10)), (by first | rfl | (simp; done) | (simp [*]; done)), H', ⟨by first | omega | exact Nat.le_refl _⟩, ⟨kp BK111.out⟩, ⟨bl HB.out⟩⟩
   case rest =>
    clear HC8
    try clear c1
    try clear p2
    try clear c3
    try clear c4
    try clear c4b0
    try clear c5
    try clear c5b0
    try clear p6
    try clear q6
    try clear hx6
    try clear c11
    try clear c11b0
    try clear c11b1
    try clear p6
    try clear q6
    obtain ⟨kq, x15_7, rfl, HA, HJ7, BK111, HB⟩ := hcut
    cases kq with
    | zero => exact absurd HA.out (by simp [drachmref08_Next.j0])
    | succ kj7 =>
     have H := HA.out
     clear HA
     simp only [drachmref08_Next.j0] at H
     by_cases c12 : x15_7 = true
     ·subst c12
      have H1 : (some (0, 0, (⟨#[]⟩ : ByteArray), 0, 0)) = some (r1, r2, r3, r4, r5) := by rw [if_pos rfl] at H; exact H
      clear H
      have H := H1
      clear H1
      simp only [Option.some.injEq, Prod.mk.injEq] at H
      obtain ⟨rfl, rfl, rfl, rfl, rfl⟩ := H
      obtain ⟨hcz13_0, hcz13_1, hcz13_2, hcz13_3, hcz13_4⟩ := hc5 BK111.out
      obtain ⟨hfz13_0, hfz13_1, hfz13_2, hfz13_3, hfz13_4⟩ := hf5 BK111.out
      go_wp2
      refine bodyPost_ret (results_cell_row rfl _ _ gb111 69 #[.int .i64 0, .int .i64 0, .string (⟨#[]⟩ : ByteArray), .int .i64 0, .int .i64 0] (0, 0) _ rfl (kp (p5_4 (kp (p5_3 (kp (p5_2 (kp (p5_1 (kp (p5_0 (kp BK111.out))))))))))) Tryd.underlying69 rfl (by kernel_rfl)) rfl ?_
      exact ⟨by first | rfl | (simp [errW_none, errW_some] <;> rfl) | (simp [*, errW_none, errW_some] <;> rfl), bl HB.out⟩
     ·replace c12 := Bool.eq_false_iff.mpr c12
      subst c12
      have H1 : (if t112 = 1 then ((drachmref08_goes.f kj7 a0 a1 a2 1).bind fun t113 => (if 0 ≤ a2 then (if a2 ≤ (wrap64 (a2 + t113)) then (if (wrap64 (a2 + t113)) ≤ (a1.size : Int) then ((drachmref07_Raise.f kj7 a0 (a1.extract (a2 : Int).toNat ((wrap64 (a2 + t113)) : Int).toNat)).bind fun t114 => (some (1, a2, t114, 0, t113))) else (none)) else (none)) else (none))) else (if t112 = 2 then ((drachmref08_goes.f kj7 a0 a1 a2 2).bind fun t115 => (if 0 ≤ a2 then (if a2 ≤ (wrap64 (a2 + t115)) then (if (wrap64 (a2 + t115)) ≤ (a1.size : Int) then ((drachmref08_number.f kj7 (a1.extract (a2 : Int).toNat ((wrap64 (a2 + t115)) : Int).toNat)).bind fun bt116 => (if bt116.2 = true then (some (2, a2, a1.extract (a2 : Int).toNat ((wrap64 (a2 + t115)) : Int).toNat, bt116.1, t115)) else (some (0, 0, (⟨#[]⟩ : ByteArray), 0, 0)))) else (none)) else (none)) else (none))) else (if t112 = 9 then ((drachmref08_note.f kj7 a0 a1 a2).bind fun bt119 => (some (bt119.1, bt119.2.1, bt119.2.2.1, bt119.2.2.2.1, bt119.2.2.2.2))) else (if 0 ≤ a2 then (if a2 < (a1.size : Int) then ((drachmref07_Kind.f kj7 a0 (bt a1 a2)).bind fun t124 => (if a2 ≤ (wrap64 (a2 + 1)) then (if (wrap64 (a2 + 1)) ≤ (a1.size : Int) then (some (t124, a2, a1.extract (a2 : Int).toNat ((wrap64 (a2 + 1)) : Int).toNat, 0, 1)) else (none)) else (none))) else (none)) else (none))))) = some (r1, r2, r3, r4, r5) := by rw [if_neg (show ¬ (false = true) by decide)] at H; exact H
      clear H
      have H := H1
      clear H1
      by_cases c14 : t112 = 1
      ·rw [if_pos c14] at H
       have c14b0 : (t112 == 1) = true := beq_iff_eq.mpr c14
       have c14b1 : (t112 != 1) = false := bne_eq_false_iff_eq.mpr c14
       clear c14
       replace H := Option.bind_eq_some_iff.mp H
       obtain ⟨t113, A150, H⟩ := H
       replace H : (if 0 ≤ a2 then (if a2 ≤ (wrap64 (a2 + t113)) then (if (wrap64 (a2 + t113)) ≤ (a1.size : Int) then ((drachmref07_Raise.f kj7 a0 (a1.extract (a2 : Int).toNat ((wrap64 (a2 + t113)) : Int).toNat)).bind fun t114 => (some (1, a2, t114, 0, t113))) else (none)) else (none)) else (none)) = some (r1, r2, r3, r4, r5) := H
       have A15 := Aside0.mk A150
       clear A150
       by_cases c16 : 0 ≤ a2
       ·rw [if_pos c16] at H
        have c16b0 := eq_true c16
        have c16b1 : decide (0 ≤ a2) = true := decide_eq_true c16
        clear c16
        by_cases c17 : a2 ≤ (wrap64 (a2 + t113))
        ·rw [if_pos c17] at H
         have c17b0 := eq_true c17
         have c17b1 : decide (a2 ≤ (wrap64 (a2 + t113))) = true := decide_eq_true c17
         by_cases c18 : (wrap64 (a2 + t113)) ≤ (a1.size : Int)
         ·rw [if_pos c18] at H
          have c18b0 := eq_true c18
          have c18b1 : decide ((wrap64 (a2 + t113)) ≤ (a1.size : Int)) = true := decide_eq_true c18
          replace H := Option.bind_eq_some_iff.mp H
          obtain ⟨t114, A190, H⟩ := H
          replace H : (some (1, a2, t114, 0, t113)) = some (r1, r2, r3, r4, r5) := H
          have A19 := Aside0.mk A190
          clear A190
          simp only [Option.some.injEq, Prod.mk.injEq] at H
          obtain ⟨rfl, rfl, rfl, rfl, rfl⟩ := H
          go_wp2_with (first | (go_at_call 39; (with_reducible refine (drachmref08_goes.calls kj7 a0 a1 a2 1 t113 _ A15.out).mono ?_); rintro e w20 ⟨rfl, hb⟩; replace BK111 := kb BK111 hb; replace HB := sb HB hb; (try clear hb); (try clear hb2); (try clear hk); (try clear hi)) | (go_at_call 40; (with_reducible refine (drachmref07_Raise.calls kj7 a0 (a1.extract (a2 : Int).toNat ((wrap64 (a2 + t113)) : Int).toNat) t114 _ A19.out).mono ?_); rintro e w21 ⟨rfl, hb⟩; replace BK111 := kb BK111 hb; replace HB := sb HB hb; (try clear hb); (try clear hb2); (try clear hk); (try clear hi); obtain ⟨hcz22_0, hcz22_1, hcz22_2, hcz22_3, hcz22_4⟩ := hc5 BK111.out; obtain ⟨hfz22_0, hfz22_1, hfz22_2, hfz22_3, hfz22_4⟩ := hf5 BK111.out))
          refine bodyPost_ret (results_cell_row rfl _ _ gb111 69 #[.int .i64 1, .int .i64 a2, .string t114, .int .i64 0, .int .i64 t113] (0, 0) _ rfl (kp (p5_4 (kp (p5_3 (kp (p5_2 (kp (p5_1 (kp (p5_0 (kp BK111.out))))))))))) Tryd.underlying69 rfl (by kernel_rfl)) rfl ?_
          exact ⟨by first | rfl | (simp [errW_none, errW_some] <;> rfl) | (simp [*, errW_none, errW_some] <;> rfl), bl HB.out⟩
         ·rw [if_neg c18] at H
          exact absurd H (by simp)
        ·rw [if_neg c17] at H
         exact absurd H (by simp)
       ·rw [if_neg c16] at H
        exact absurd H (by simp)
      ·rw [if_neg c14] at H
       have c14b0 : (t112 == 1) = false := beq_eq_false_iff_ne.mpr c14
       have c14b1 : (t112 != 1) = true := bne_iff_ne.mpr c14
       by_cases c23 : t112 = 2
       ·rw [if_pos c23] at H
        have c23b0 : (t112 == 2) = true := beq_iff_eq.mpr c23
        have c23b1 : (t112 != 2) = false := bne_eq_false_iff_eq.mpr c23
        clear c23
        replace H := Option.bind_eq_some_iff.mp H
        obtain ⟨t115, A240, H⟩ := H
        replace H : (if 0 ≤ a2 then (if a2 ≤ (wrap64 (a2 + t115)) then (if (wrap64 (a2 + t115)) ≤ (a1.size : Int) then ((drachmref08_number.f kj7 (a1.extract (a2 : Int).toNat ((wrap64 (a2 + t115)) : Int).toNat)).bind fun bt116 => (if bt116.2 = true then (some (2, a2, a1.extract (a2 : Int).toNat ((wrap64 (a2 + t115)) : Int).toNat, bt116.1, t115)) else (some (0, 0, (⟨#[]⟩ : ByteArray), 0, 0)))) else (none)) else (none)) else (none)) = some (r1, r2, r3, r4, r5) := H
        have A24 := Aside0.mk A240
        clear A240
        by_cases c25 : 0 ≤ a2
        ·rw [if_pos c25] at H
         have c25b0 := eq_true c25
         have c25b1 : decide (0 ≤ a2) = true := decide_eq_true c25
         clear c25
         by_cases c26 : a2 ≤ (wrap64 (a2 + t115))
         ·rw [if_pos c26] at H
          have c26b0 := eq_true c26
          have c26b1 : decide (a2 ≤ (wrap64 (a2 + t115))) = true := decide_eq_true c26
          by_cases c27 : (wrap64 (a2 + t115)) ≤ (a1.size : Int)
          ·rw [if_pos c27] at H
           have c27b0 := eq_true c27
           have c27b1 : decide ((wrap64 (a2 + t115)) ≤ (a1.size : Int)) = true := decide_eq_true c27
           replace H := Option.bind_eq_some_iff.mp H
           obtain ⟨⟨t116, t117⟩, A280, H⟩ := H
           replace H : (if t117 = true then (some (2, a2, a1.extract (a2 : Int).toNat ((wrap64 (a2 + t115)) : Int).toNat, t116, t115)) else (some (0, 0, (⟨#[]⟩ : ByteArray), 0, 0))) = some (r1, r2, r3, r4, r5) := H
           have A28 := Aside0.mk A280
           clear A280
           by_cases c29 : t117 = true
           ·subst c29
            have H1 : (some (2, a2, a1.extract (a2 : Int).toNat ((wrap64 (a2 + t115)) : Int).toNat, t116, t115)) = some (r1, r2, r3, r4, r5) := by rw [if_pos rfl] at H; exact H
            clear H
            have H := H1
            clear H1
            have c30b0 := eq_true (of_decide_eq_true (by first | (with_reducible assumption) | assumption) : 0 ≤ a2)
            have c31b0 := eq_true (of_decide_eq_true (by first | (with_reducible assumption) | assumption) : a2 ≤ (wrap64 (a2 + t115)))
            have c32b0 := eq_true (of_decide_eq_true (by first | (with_reducible assumption) | assumption) : (wrap64 (a2 + t115)) ≤ (a1.size : Int))
            simp only [Option.some.injEq, Prod.mk.injEq] at H
            obtain ⟨rfl, rfl, rfl, rfl, rfl⟩ := H
            try go_wp2_with (first | (go_at_call 39; (with_reducible refine (drachmref08_goes.calls kj7 a0 a1 a2 2 t115 _ A24.out).mono ?_); rintro e w33 ⟨rfl, hb⟩; replace BK111 := kb BK111 hb; replace HB := sb HB hb; (try clear hb); (try clear hb2); (try clear hk); (try clear hi)) | (go_at_call 41; (with_reducible refine (drachmref08_number.calls kj7 (a1.extract (a2 : Int).toNat ((wrap64 (a2 + t115)) : Int).toNat) t116 true _ A28.out).mono ?_); rintro e w34 ⟨rfl, hb⟩; replace BK111 := kb BK111 hb; replace HB := sb HB hb; (try clear hb); (try clear hb2); (try clear hk); (try clear hi)) | ((with_reducible refine gate_dst (N := 9) rfl ?_); refine box_event ?hg (N := 9) ?hd (cs := #[.int .i64 0, .bool false]) (t := 81) ?hr ?_; (case hd => rfl); (case hg => rfl); (case hr => first | (go_simp; done) | (go_simp; rfl)); intro gb118 hg w35 hbox hb; have n0_ := kb BK111 hb; have n1_ := sb HB hb; have n2_ := Aside0.mk (hbox); have n3_ := Aside0.mk ((by rw [hg]; exact (below_size (bl HB.out)) : w.heap.size ≤ gb118)); have n4_ := Aside0.mk ((by rw [hg]; exact (below_size (bl HB.out)) : w.heap.size ≤ gb118)); have n5_ := Aside0.mk ((by rw [hg]; exact Nat.ne_of_lt (blk_lt (kp BK111.out)) : gb111 ≠ gb118)); have n6_ := Aside0.mk ((by rw [hg]; exact Nat.ne_of_gt (blk_lt (kp BK111.out)) : gb118 ≠ gb111)); clear BK111; clear HB; have BK111 := n0_; have HB := n1_; have BK118 := n2_; have GW118 := n3_; have GE118 := n4_; have NB111_118 := n5_; have NB118_111 := n6_; clear n0_ n1_ n2_ n3_ n4_ n5_ n6_; clear hb hbox hg; have hnb36 := NB118_111.out; have hnc36 := NB111_118.out; obtain ⟨hcz37_0, hcz37_1⟩ := hc2 BK118.out; obtain ⟨hfz37_0, hfz37_1⟩ := hf2 BK118.out))
            have n0_ : Aside0 (((w35.setCell ⟨gb118, 0, none⟩ (.int .i64 t116)).setCell ⟨gb118, 1, none⟩ (.bool true)).heap[gb111]? = some (.cells #[.int .i64 0, .int .i64 0, .string (⟨#[]⟩ : ByteArray), .int .i64 0, .int .i64 0] 69 (0, 0))) := ⟨kp BK111.out⟩
            have n1_ : Aside0 (((w35.setCell ⟨gb118, 0, none⟩ (.int .i64 t116)).setCell ⟨gb118, 1, none⟩ (.bool true)).heap[gb118]? = some (.cells #[.int .i64 t116, .bool true] 81 (0, 0))) := ⟨kp (p2_1 (kp (p2_0 (kp BK118.out))))⟩
            have n2_ : Aside0 (Below w.heap.size w ((w35.setCell ⟨gb118, 0, none⟩ (.int .i64 t116)).setCell ⟨gb118, 1, none⟩ (.bool true))) := ⟨bl HB.out⟩
            (try clear BK111)
            (try clear BK118)
            (try clear HB)
            generalize ((w35.setCell ⟨gb118, 0, none⟩ (.int .i64 t116)).setCell ⟨gb118, 1, none⟩ (.bool true)) = w38 at n0_ n1_ n2_ ⊢
            have BK111 := n0_
            have BK118 := n1_
            have HB := n2_
            clear n0_ n1_ n2_
            (try (rw [drewN_self w38]; generalize hq_ : World.drewN w38 _ = w38; replace BK111 := Aside0.mk (kq hq_ BK111.out); replace BK118 := Aside0.mk (kq hq_ BK118.out); replace HB := Aside0.mk (bq hq_ HB.out); clear hq_))
            replace BK111 := Aside0.mk (blk_drew BK111.out)
            replace BK118 := Aside0.mk (blk_drew BK118.out)
            replace HB := Aside0.mk (below_drew1 HB.out)
            refine start_ (n := 13) (S := fun w' => w'.cell? ⟨gb118, 0, none⟩ = some (.int .i64 t116) ∧ w'.cell? ⟨gb118, 1, none⟩ = some (.bool true)) (ds := []) #[false, false, false, false, false, false, false, false, false, false, false, false, false] (by kernel_rfl) rfl rfl ⟨(blk_cell BK118.out 0).trans rfl, (blk_cell BK118.out 1).trans rfl⟩ (fun hHeld => ?_); refine with_tabW drachmref08_Next.tab13 drachmref08_Next.bits13 (fun HT_ HW_ => ?_)
            generalize w38.drew = w39 at BK111 BK118 HB hHeld ⊢
            refine pure_ (i := 0) (N := some 54) (v := ?_) (a' := ?_) #[true, false, false, false, false, false, false, false, false, false, false, false, false] rfl rfl (any_of HT_.out (by kernel_rfl)) (fun _ _ _ h => h) (Or.inl ⟨by rfl, ?_⟩) ?_ ?_
            rotate_left
            ·intro w'
             go_simp
             first | with_reducible rfl | (rw [if_neg (by simp only [lit_size, List.length_cons, List.length_nil, ByteArray.size_extract, ByteArray.size_append, eq_iff_iff, iff_true, iff_false] at *; omega)])
            rotate_left
            ·simp only [Act.put, List.setIfInBounds_toArray, List.set_cons_zero, List.set_cons_succ, i64_w, i32_w]
             rfl
            refine pure_ (i := 1) (N := some 55) (v := ?_) (a' := ?_) #[true, true, false, false, false, false, false, false, false, false, false, false, false] rfl rfl (any_of HT_.out (by kernel_rfl)) (fun _ _ _ h => h) (Or.inl ⟨by rfl, ?_⟩) ?_ ?_
            rotate_left
            ·intro w'
             go_simp
             first | with_reducible rfl | (rw [if_neg (by simp only [lit_size, List.length_cons, List.length_nil, ByteArray.size_extract, ByteArray.size_append, eq_iff_iff, iff_true, iff_false] at *; omega)])
            rotate_left
            ·simp only [Act.put, List.setIfInBounds_toArray, List.set_cons_zero, List.set_cons_succ, i64_w, i32_w]
             rfl
            refine pure_ (i := 2) (N := some 56) (v := ?_) (a' := ?_) #[true, true, true, false, false, false, false, false, false, false, false, false, false] rfl rfl (any_of HT_.out (by kernel_rfl)) (fun _ _ _ h => h) (Or.inl ⟨by rfl, ?_⟩) ?_ ?_
            rotate_left
            ·intro w'
             go_simp
             first | with_reducible rfl | (rw [if_neg (by simp only [lit_size, List.length_cons, List.length_nil, ByteArray.size_extract, ByteArray.size_append, eq_iff_iff, iff_true, iff_false] at *; omega)])
            rotate_left
            ·simp only [Act.put, List.setIfInBounds_toArray, List.set_cons_zero, List.set_cons_succ, i64_w, i32_w]
             rfl
            refine pure_ (i := 3) (N := some 57) (v := ?_) (a' := ?_) #[true, true, true, true, false, false, false, false, false, false, false, false, false] rfl rfl (any_of HT_.out (by kernel_rfl)) (fun _ _ _ h => h) (Or.inl ⟨by rfl, ?_⟩) ?_ ?_
            rotate_left
            ·intro w'
             go_simp
             first | with_reducible rfl | (rw [if_neg (by simp only [lit_size, List.length_cons, List.length_nil, ByteArray.size_extract, ByteArray.size_append, eq_iff_iff, iff_true, iff_false] at *; omega)])
            rotate_left
            ·simp only [Act.put, List.setIfInBounds_toArray, List.set_cons_zero, List.set_cons_succ, i64_w, i32_w]
             rfl
            refine pure_ (i := 4) (N := some 58) (v := ?_) (a' := ?_) #[true, true, true, true, true, false, false, false, false, false, false, false, false] rfl rfl (any_of HT_.out (by kernel_rfl)) (fun _ _ _ h => h) (Or.inl ⟨by rfl, ?_⟩) ?_ ?_
            rotate_left
            ·intro w'
             go_simp
             first | with_reducible rfl | (rw [if_neg (by simp only [lit_size, List.length_cons, List.length_nil, ByteArray.size_extract, ByteArray.size_append, eq_iff_iff, iff_true, iff_false] at *; omega)])
            rotate_left
            ·simp only [Act.put, List.setIfInBounds_toArray, List.set_cons_zero, List.set_cons_succ, i64_w, i32_w]
             rfl
            refine pure_ (i := 5) (N := some 59) (v := ?_) (a' := ?_) #[true, true, true, true, true, true, false, false, false, false, false, false, false] rfl rfl (any_of HT_.out (by kernel_rfl)) (fun _ _ _ h => h) (Or.inl ⟨by rfl, ?_⟩) ?_ ?_
            rotate_left
            ·intro w'
             go_simp
             first | with_reducible rfl | (rw [if_neg (by simp only [lit_size, List.length_cons, List.length_nil, ByteArray.size_extract, ByteArray.size_append, eq_iff_iff, iff_true, iff_false] at *; omega)])
            rotate_left
            ·simp only [Act.put, List.setIfInBounds_toArray, List.set_cons_zero, List.set_cons_succ, i64_w, i32_w]
             rfl
            refine pure_ (i := 6) (N := some 60) (v := ?_) (a' := ?_) #[true, true, true, true, true, true, true, false, false, false, false, false, false] rfl rfl (any_of HT_.out (by kernel_rfl)) (fun _ _ _ h => h) (Or.inl ⟨by rfl, ?_⟩) ?_ ?_
            rotate_left
            ·intro w'
             go_simp
             first | with_reducible rfl | (rw [if_neg (by simp only [lit_size, List.length_cons, List.length_nil, ByteArray.size_extract, ByteArray.size_append, eq_iff_iff, iff_true, iff_false] at *; omega)])
            rotate_left
            ·simp only [Act.put, List.setIfInBounds_toArray, List.set_cons_zero, List.set_cons_succ, i64_w, i32_w]
             rfl
            refine pure_ (i := 7) (N := some 61) (v := ?_) (a' := ?_) #[true, true, true, true, true, true, true, true, false, false, false, false, false] rfl rfl (any_of HT_.out (by kernel_rfl)) (fun _ _ _ h => h) (Or.inl ⟨by rfl, ?_⟩) ?_ ?_
            rotate_left
            ·intro w'
             go_simp
             first | with_reducible rfl | (rw [if_neg (by simp only [lit_size, List.length_cons, List.length_nil, ByteArray.size_extract, ByteArray.size_append, eq_iff_iff, iff_true, iff_false] at *; omega)])
            rotate_left
            ·simp only [Act.put, List.setIfInBounds_toArray, List.set_cons_zero, List.set_cons_succ, i64_w, i32_w]
             rfl
            refine pure_ (i := 10) (N := some 64) (v := ?_) (a' := ?_) #[true, true, true, true, true, true, true, true, false, false, true, false, false] rfl rfl (any_of HT_.out (by kernel_rfl)) (fun _ _ _ h => h) (Or.inl ⟨by rfl, ?_⟩) ?_ ?_
            rotate_left
            ·intro w'
             go_simp
             first | with_reducible rfl | (rw [if_neg (by simp only [lit_size, List.length_cons, List.length_nil, ByteArray.size_extract, ByteArray.size_append, eq_iff_iff, iff_true, iff_false] at *; omega)])
            rotate_left
            ·simp only [Act.put, List.setIfInBounds_toArray, List.set_cons_zero, List.set_cons_succ, i64_w, i32_w]
             rfl
            refine take_ (i := 8) (N := some 62) (v := ?_) (a' := ?_) #[true, true, true, true, true, true, true, true, true, false, true, false, false] rfl rfl (take_ofW HT_.out HW_.out (by kernel_rfl)) (fun _ _ _ h => h) (Or.inl ⟨by rfl, ?_⟩) hHeld ?_ ?_
            rotate_left
            ·rintro w' ⟨s0, s1⟩
             go_simp
             first | with_reducible rfl | (rw [if_neg (by simp only [lit_size, List.length_cons, List.length_nil, ByteArray.size_extract, ByteArray.size_append, eq_iff_iff, iff_true, iff_false] at *; omega)])
            rotate_left
            ·simp only [Act.put, List.setIfInBounds_toArray, List.set_cons_zero, List.set_cons_succ, i64_w, i32_w]
             rfl
            refine pure_ (i := 9) (N := some 63) (v := ?_) (a' := ?_) #[true, true, true, true, true, true, true, true, true, true, true, false, false] rfl rfl (any_of HT_.out (by kernel_rfl)) (fun _ _ _ h => h) (Or.inl ⟨by rfl, ?_⟩) ?_ ?_
            rotate_left
            ·intro w'
             go_simp
             first | with_reducible rfl | (rw [if_neg (by simp only [lit_size, List.length_cons, List.length_nil, ByteArray.size_extract, ByteArray.size_append, eq_iff_iff, iff_true, iff_false] at *; omega)])
            rotate_left
            ·simp only [Act.put, List.setIfInBounds_toArray, List.set_cons_zero, List.set_cons_succ, i64_w, i32_w]
             rfl
            refine pure_ (i := 11) (N := some 65) (v := ?_) (a' := ?_) #[true, true, true, true, true, true, true, true, true, true, true, true, false] rfl rfl (any_of HT_.out (by kernel_rfl)) (fun _ _ _ h => h) (Or.inl ⟨by rfl, ?_⟩) ?_ ?_
            rotate_left
            ·intro w'
             go_simp
             first | with_reducible rfl | (rw [if_neg (by simp only [lit_size, List.length_cons, List.length_nil, ByteArray.size_extract, ByteArray.size_append, eq_iff_iff, iff_true, iff_false] at *; omega)])
            rotate_left
            ·simp only [Act.put, List.setIfInBounds_toArray, List.set_cons_zero, List.set_cons_succ, i64_w, i32_w]
             rfl
            refine one_ (i := 12) (N := none) #[true, true, true, true, true, true, true, true, true, true, true, true, true] rfl rfl (one_of HT_.out (by kernel_rfl)) (by decide) (fun K hK => ?_)
            have hs40 : w39.cell? ⟨gb111, 0, none⟩ = some (.int .i64 0) := (blk_cell BK111.out 0).trans rfl
            have hfs40 := blk_frozen BK111.out 0
            have hns40_1 := NB118_111.out
            have hms40_1 := NB111_118.out
            have hs41 : w39.cell? ⟨gb111, 1, none⟩ = some (.int .i64 0) := (blk_cell BK111.out 1).trans rfl
            have hfs41 := blk_frozen BK111.out 1
            have hns41_1 := NB118_111.out
            have hms41_1 := NB111_118.out
            have hs42 : w39.cell? ⟨gb111, 2, none⟩ = some (.string (⟨#[]⟩ : ByteArray)) := (blk_cell BK111.out 2).trans rfl
            have hfs42 := blk_frozen BK111.out 2
            have hns42_1 := NB118_111.out
            have hms42_1 := NB111_118.out
            have hs43 : w39.cell? ⟨gb111, 3, none⟩ = some (.int .i64 0) := (blk_cell BK111.out 3).trans rfl
            have hfs43 := blk_frozen BK111.out 3
            have hns43_1 := NB118_111.out
            have hms43_1 := NB111_118.out
            have hs44 : w39.cell? ⟨gb111, 4, none⟩ = some (.int .i64 0) := (blk_cell BK111.out 4).trans rfl
            have hfs44 := blk_frozen BK111.out 4
            have hns44_1 := NB118_111.out
            have hms44_1 := NB111_118.out
            refine skip_ (w1 := ?_) (by rfl) rfl ?_ ?_
            rotate_left
            ·go_simp
             rfl
            refine hK.out _ _ ⟨((cell_far (p := ⟨gb111, _, none⟩) NB118_111.out _).trans (((cell_far (p := ⟨gb111, _, none⟩) NB118_111.out _).trans (((cell_far (p := ⟨gb111, _, none⟩) NB118_111.out _).trans (((cell_far (p := ⟨gb111, _, none⟩) NB118_111.out _).trans (((cell_far (p := ⟨gb111, _, none⟩) NB118_111.out _).trans (hHeld.1)))))))))), ((cell_far (p := ⟨gb111, _, none⟩) NB118_111.out _).trans (((cell_far (p := ⟨gb111, _, none⟩) NB118_111.out _).trans (((cell_far (p := ⟨gb111, _, none⟩) NB118_111.out _).trans (((cell_far (p := ⟨gb111, _, none⟩) NB118_111.out _).trans (((cell_far (p := ⟨gb111, _, none⟩) NB118_111.out _).trans (hHeld.2))))))))))⟩ (fun hHeld => ?_)
            clear hK K
            refine done_ (done_of HT_.out (by kernel_rfl)) ?_
            try go_wp2
            refine bodyPost_ret (results_cell_row rfl _ _ gb111 69 #[.int .i64 2, .int .i64 a2, .string (a1.extract (a2 : Int).toNat ((wrap64 (a2 + t115)) : Int).toNat), .int .i64 t116, .int .i64 t115] (0, 0) _ rfl (kp (p5_4 (kp (p5_3 (kp (p5_2 (kp (p5_1 (kp (p5_0 (kp BK111.out))))))))))) Tryd.underlying69 rfl (by kernel_rfl)) rfl ?_
            exact ⟨by first | rfl | (simp [errW_none, errW_some] <;> rfl) | (simp [*, errW_none, errW_some] <;> rfl), bl HB.out⟩
           ·replace c29 := Bool.eq_false_iff.mpr c29
            subst c29
            have H1 : (some (0, 0, (⟨#[]⟩ : ByteArray), 0, 0)) = some (r1, r2, r3, r4, r5) := by rw [if_neg (show ¬ (false = true) by decide)] at H; exact H
            clear H
            have H := H1
            clear H1
            simp only [Option.some.injEq, Prod.mk.injEq] at H
            obtain ⟨rfl, rfl, rfl, rfl, rfl⟩ := H
            go_wp2_with (first | (go_at_call 39; (with_reducible refine (drachmref08_goes.calls kj7 a0 a1 a2 2 t115 _ A24.out).mono ?_); rintro e w45 ⟨rfl, hb⟩; replace BK111 := kb BK111 hb; replace HB := sb HB hb; (try clear hb); (try clear hb2); (try clear hk); (try clear hi)) | (go_at_call 41; (with_reducible refine (drachmref08_number.calls kj7 (a1.extract (a2 : Int).toNat ((wrap64 (a2 + t115)) : Int).toNat) t116 false _ A28.out).mono ?_); rintro e w46 ⟨rfl, hb⟩; replace BK111 := kb BK111 hb; replace HB := sb HB hb; (try clear hb); (try clear hb2); (try clear hk); (try clear hi)) | ((with_reducible refine gate_dst (N := 9) rfl ?_); refine box_event ?hg (N := 9) ?hd (cs := #[.int .i64 0, .bool false]) (t := 81) ?hr ?_; (case hd => rfl); (case hg => rfl); (case hr => first | (go_simp; done) | (go_simp; rfl)); intro gb118 hg w47 hbox hb; have n0_ := kb BK111 hb; have n1_ := sb HB hb; have n2_ := Aside0.mk (hbox); have n3_ := Aside0.mk ((by rw [hg]; exact (below_size (bl HB.out)) : w.heap.size ≤ gb118)); have n4_ := Aside0.mk ((by rw [hg]; exact (below_size (bl HB.out)) : w.heap.size ≤ gb118)); have n5_ := Aside0.mk ((by rw [hg]; exact Nat.ne_of_lt (blk_lt (kp BK111.out)) : gb111 ≠ gb118)); have n6_ := Aside0.mk ((by rw [hg]; exact Nat.ne_of_gt (blk_lt (kp BK111.out)) : gb118 ≠ gb111)); clear BK111; clear HB; have BK111 := n0_; have HB := n1_; have BK118 := n2_; have GW118 := n3_; have GE118 := n4_; have NB111_118 := n5_; have NB118_111 := n6_; clear n0_ n1_ n2_ n3_ n4_ n5_ n6_; clear hb hbox hg; have hnb48 := NB118_111.out; have hnc48 := NB111_118.out; obtain ⟨hcz49_0, hcz49_1⟩ := hc2 BK118.out; obtain ⟨hfz49_0, hfz49_1⟩ := hf2 BK118.out; obtain ⟨hcz50_0, hcz50_1, hcz50_2, hcz50_3, hcz50_4⟩ := hc5 BK111.out; obtain ⟨hfz50_0, hfz50_1, hfz50_2, hfz50_3, hfz50_4⟩ := hf5 BK111.out))
            refine bodyPost_ret (results_cell_row rfl _ _ gb111 69 #[.int .i64 0, .int .i64 0, .string (⟨#[]⟩ : ByteArray), .int .i64 0, .int .i64 0] (0, 0) _ rfl (kp (p5_4 (kp (p5_3 (kp (p5_2 (kp (p5_1 (kp (p5_0 (kp BK111.out))))))))))) Tryd.underlying69 rfl (by kernel_rfl)) rfl ?_
            exact ⟨by first | rfl | (simp [errW_none, errW_some] <;> rfl) | (simp [*, errW_none, errW_some] <;> rfl), bl HB.out⟩
          ·rw [if_neg c27] at H
           exact absurd H (by simp)
         ·rw [if_neg c26] at H
          exact absurd H (by simp)
        ·rw [if_neg c25] at H
         exact absurd H (by simp)
       ·rw [if_neg c23] at H
        have c23b0 : (t112 == 2) = false := beq_eq_false_iff_ne.mpr c23
        have c23b1 : (t112 != 2) = true := bne_iff_ne.mpr c23
        by_cases c51 : t112 = 9
        ·rw [if_pos c51] at H
         have c51b0 : (t112 == 9) = true := beq_iff_eq.mpr c51
         have c51b1 : (t112 != 9) = false := bne_eq_false_iff_eq.mpr c51
         clear c51
         replace H := Option.bind_eq_some_iff.mp H
         obtain ⟨⟨t119, t120, t121, t122, t123⟩, A520, H⟩ := H
         replace H : (some (t119, t120, t121, t122, t123)) = some (r1, r2, r3, r4, r5) := H
         have A52 := Aside0.mk A520
         clear A520
         simp only [Option.some.injEq, Prod.mk.injEq] at H
         obtain ⟨rfl, rfl, rfl, rfl, rfl⟩ := H
         go_wp2_with (first | (go_at_call 42; (with_reducible refine (drachmref08_note.calls kj7 a0 a1 a2 t119 t120 t121 t122 t123 _ A52.out).mono ?_); rintro e w53 ⟨rfl, hb⟩; replace BK111 := kb BK111 hb; replace HB := sb HB hb; (try clear hb); (try clear hb2); (try clear hk); (try clear hi); obtain ⟨hcz54_0, hcz54_1, hcz54_2, hcz54_3, hcz54_4⟩ := hc5 BK111.out; obtain ⟨hfz54_0, hfz54_1, hfz54_2, hfz54_3, hfz54_4⟩ := hf5 BK111.out))
         refine bodyPost_ret (results_cell_row rfl _ _ gb111 69 #[.int .i64 t119, .int .i64 t120, .string t121, .int .i64 t122, .int .i64 t123] (0, 0) _ rfl (kp (p5_4 (kp (p5_3 (kp (p5_2 (kp (p5_1 (kp (p5_0 (kp BK111.out))))))))))) Tryd.underlying69 rfl (by kernel_rfl)) rfl ?_
         exact ⟨by first | rfl | (simp [errW_none, errW_some] <;> rfl) | (simp [*, errW_none, errW_some] <;> rfl), bl HB.out⟩
        ·rw [if_neg c51] at H
         have c51b0 : (t112 == 9) = false := beq_eq_false_iff_ne.mpr c51
         have c51b1 : (t112 != 9) = true := bne_iff_ne.mpr c51
         by_cases c55 : 0 ≤ a2
         ·rw [if_pos c55] at H
          have c55b0 : decide (0 ≤ a2) = true := decide_eq_true c55
          clear c55
          by_cases c56 : a2 < (a1.size : Int)
          ·rw [if_pos c56] at H
           have c56b0 : decide (a2 < (a1.size : Int)) = true := decide_eq_true c56
           clear c56
           replace H := Option.bind_eq_some_iff.mp H
           obtain ⟨t124, A580, H⟩ := H
           replace H : (if a2 ≤ (wrap64 (a2 + 1)) then (if (wrap64 (a2 + 1)) ≤ (a1.size : Int) then (some (t124, a2, a1.extract (a2 : Int).toNat ((wrap64 (a2 + 1)) : Int).toNat, 0, 1)) else (none)) else (none)) = some (r1, r2, r3, r4, r5) := H
           have A58 := Aside0.mk A580
           clear A580
           have c59b0 := eq_true (of_decide_eq_true (by first | (with_reducible assumption) | assumption) : 0 ≤ a2)
           by_cases c60 : a2 ≤ (wrap64 (a2 + 1))
           ·rw [if_pos c60] at H
            have c60b0 := eq_true c60
            have c60b1 : decide (a2 ≤ (wrap64 (a2 + 1))) = true := decide_eq_true c60
            by_cases c61 : (wrap64 (a2 + 1)) ≤ (a1.size : Int)
            ·rw [if_pos c61] at H
             have c61b0 := eq_true c61
             have c61b1 : decide ((wrap64 (a2 + 1)) ≤ (a1.size : Int)) = true := decide_eq_true c61
             simp only [Option.some.injEq, Prod.mk.injEq] at H
             obtain ⟨rfl, rfl, rfl, rfl, rfl⟩ := H
             try go_wp2
             (try (rw [drewN_self wc]; generalize hq_ : World.drewN wc _ = wc; replace BK111 := Aside0.mk (kq hq_ BK111.out); replace HB := Aside0.mk (bq hq_ HB.out); clear hq_))
             replace BK111 := Aside0.mk (blk_drew BK111.out)
             replace HB := Aside0.mk (below_drew1 HB.out)
             have p57 : 0 ≤ (a2 : Int) := of_decide_eq_true (by first | (with_reducible assumption) | assumption)
             have q57 : a2 < (a1.size : Int) := of_decide_eq_true (by first | (with_reducible assumption) | assumption)
             have hx57 := bt_at a1 a2
             replace p57 := eq_true p57
             replace q57 := eq_true q57
             refine start_ (n := 14) (S := fun w' => True) (ds := []) #[false, false, false, false, false, false, false, false, false, false, false, false, false, false] (by kernel_rfl) rfl rfl trivial (fun hHeld => ?_); refine with_tabW drachmref08_Next.tab16 drachmref08_Next.bits16 (fun HT_ HW_ => ?_)
             generalize wc.drew = w62 at BK111 HB hHeld ⊢
             refine pure_ (i := 0) (N := some 72) (v := ?_) (a' := ?_) #[true, false, false, false, false, false, false, false, false, false, false, false, false, false] rfl rfl (any_of HT_.out (by kernel_rfl)) (fun _ _ _ h => h) (Or.inl ⟨by rfl, ?_⟩) ?_ ?_
             rotate_left
             ·intro w'
              go_simp
              first | with_reducible rfl | (rw [if_neg (by simp only [lit_size, List.length_cons, List.length_nil, ByteArray.size_extract, ByteArray.size_append, eq_iff_iff, iff_true, iff_false] at *; omega)])
             rotate_left
             ·simp only [Act.put, List.setIfInBounds_toArray, List.set_cons_zero, List.set_cons_succ, i64_w, i32_w]
              rfl
             refine pure_ (i := 1) (N := some 73) (v := ?_) (a' := ?_) #[true, true, false, false, false, false, false, false, false, false, false, false, false, false] rfl rfl (any_of HT_.out (by kernel_rfl)) (fun _ _ _ h => h) (Or.inl ⟨by rfl, ?_⟩) ?_ ?_
             rotate_left
             ·intro w'
              go_simp
              first | with_reducible rfl | (rw [if_neg (by simp only [lit_size, List.length_cons, List.length_nil, ByteArray.size_extract, ByteArray.size_append, eq_iff_iff, iff_true, iff_false] at *; omega)])
             rotate_left
             ·simp only [Act.put, List.setIfInBounds_toArray, List.set_cons_zero, List.set_cons_succ, i64_w, i32_w]
              rfl
             refine pure_ (i := 2) (N := some 74) (v := ?_) (a' := ?_) #[true, true, true, false, false, false, false, false, false, false, false, false, false, false] rfl rfl (any_of HT_.out (by kernel_rfl)) (fun _ _ _ h => h) (Or.inl ⟨by rfl, ?_⟩) ?_ ?_
             rotate_left
             ·intro w'
              go_simp
              first | with_reducible rfl | (rw [if_neg (by simp only [lit_size, List.length_cons, List.length_nil, ByteArray.size_extract, ByteArray.size_append, eq_iff_iff, iff_true, iff_false] at *; omega)])
             rotate_left
             ·simp only [Act.put, List.setIfInBounds_toArray, List.set_cons_zero, List.set_cons_succ, i64_w, i32_w]
              rfl
             refine pure_ (i := 5) (N := some 77) (v := ?_) (a' := ?_) #[true, true, true, false, false, true, false, false, false, false, false, false, false, false] rfl rfl (any_of HT_.out (by kernel_rfl)) (fun _ _ _ h => h) (Or.inl ⟨by rfl, ?_⟩) ?_ ?_
             rotate_left
             ·intro w'
              go_simp
              first | with_reducible rfl | (rw [if_neg (by simp only [lit_size, List.length_cons, List.length_nil, ByteArray.size_extract, ByteArray.size_append, eq_iff_iff, iff_true, iff_false] at *; omega)])
             rotate_left
             ·simp only [Act.put, List.setIfInBounds_toArray, List.set_cons_zero, List.set_cons_succ, i64_w, i32_w]
              rfl
             refine pure_ (i := 6) (N := some 78) (v := ?_) (a' := ?_) #[true, true, true, false, false, true, true, false, false, false, false, false, false, false] rfl rfl (any_of HT_.out (by kernel_rfl)) (fun _ _ _ h => h) (Or.inl ⟨by rfl, ?_⟩) ?_ ?_
             rotate_left
             ·intro w'
              go_simp
              first | with_reducible rfl | (rw [if_neg (by simp only [lit_size, List.length_cons, List.length_nil, ByteArray.size_extract, ByteArray.size_append, eq_iff_iff, iff_true, iff_false] at *; omega)])
             rotate_left
             ·simp only [Act.put, List.setIfInBounds_toArray, List.set_cons_zero, List.set_cons_succ, i64_w, i32_w]
              rfl
             refine pure_ (i := 7) (N := some 79) (v := ?_) (a' := ?_) #[true, true, true, false, false, true, true, true, false, false, false, false, false, false] rfl rfl (any_of HT_.out (by kernel_rfl)) (fun _ _ _ h => h) (Or.inl ⟨by rfl, ?_⟩) ?_ ?_
             rotate_left
             ·intro w'
              go_simp
              first | with_reducible rfl | (rw [if_neg (by simp only [lit_size, List.length_cons, List.length_nil, ByteArray.size_extract, ByteArray.size_append, eq_iff_iff, iff_true, iff_false] at *; omega)])
             rotate_left
             ·simp only [Act.put, List.setIfInBounds_toArray, List.set_cons_zero, List.set_cons_succ, i64_w, i32_w]
              rfl
             refine pure_ (i := 8) (N := some 80) (v := ?_) (a' := ?_) #[true, true, true, false, false, true, true, true, true, false, false, false, false, false] rfl rfl (any_of HT_.out (by kernel_rfl)) (fun _ _ _ h => h) (Or.inl ⟨by rfl, ?_⟩) ?_ ?_
             rotate_left
             ·intro w'
              go_simp
              first | with_reducible rfl | (rw [if_neg (by simp only [lit_size, List.length_cons, List.length_nil, ByteArray.size_extract, ByteArray.size_append, eq_iff_iff, iff_true, iff_false] at *; omega)])
             rotate_left
             ·simp only [Act.put, List.setIfInBounds_toArray, List.set_cons_zero, List.set_cons_succ, i64_w, i32_w]
              rfl
             refine pure_ (i := 9) (N := some 81) (v := ?_) (a' := ?_) #[true, true, true, false, false, true, true, true, true, true, false, false, false, false] rfl rfl (any_of HT_.out (by kernel_rfl)) (fun _ _ _ h => h) (Or.inl ⟨by rfl, ?_⟩) ?_ ?_
             rotate_left
             ·intro w'
              go_simp
              first | with_reducible rfl | (rw [if_neg (by simp only [lit_size, List.length_cons, List.length_nil, ByteArray.size_extract, ByteArray.size_append, eq_iff_iff, iff_true, iff_false] at *; omega)])
             rotate_left
             ·simp only [Act.put, List.setIfInBounds_toArray, List.set_cons_zero, List.set_cons_succ, i64_w, i32_w]
              rfl
             refine pure_ (i := 10) (N := some 82) (v := ?_) (a' := ?_) #[true, true, true, false, false, true, true, true, true, true, true, false, false, false] rfl rfl (any_of HT_.out (by kernel_rfl)) (fun _ _ _ h => h) (Or.inl ⟨by rfl, ?_⟩) ?_ ?_
             rotate_left
             ·intro w'
              go_simp
              first | with_reducible rfl | (rw [if_neg (by simp only [lit_size, List.length_cons, List.length_nil, ByteArray.size_extract, ByteArray.size_append, eq_iff_iff, iff_true, iff_false] at *; omega)])
             rotate_left
             ·simp only [Act.put, List.setIfInBounds_toArray, List.set_cons_zero, List.set_cons_succ, i64_w, i32_w]
              rfl
             refine take_ (i := 3) (N := some 75) (v := ?_) (a' := ?_) #[true, true, true, true, false, true, true, true, true, true, true, false, false, false] rfl rfl (take_ofW HT_.out HW_.out (by kernel_rfl)) (fun _ _ _ h => h) (Or.inl ⟨by rfl, ?_⟩) hHeld ?_ ?_
             rotate_left
             ·intro w' _
              go_simp
              first | with_reducible rfl | (rw [if_neg (by simp only [lit_size, List.length_cons, List.length_nil, ByteArray.size_extract, ByteArray.size_append, eq_iff_iff, iff_true, iff_false] at *; omega)])
             rotate_left
             ·simp only [Act.put, List.setIfInBounds_toArray, List.set_cons_zero, List.set_cons_succ, i64_w, i32_w]
              rfl
             refine one_ (i := 4) (N := some 76) #[true, true, true, true, true, true, true, true, true, true, true, false, false, false] rfl rfl (one_of HT_.out (by kernel_rfl)) (by decide) (fun K hK => ?_)
             refine goes_ Tryd.func38 (by kernel_rfl) rfl #[.int .i64 a0, .int .u8 (bt a1 a2)] (by rfl) rfl rfl (by (try simp only [List.map_toArray, List.map_cons, List.map_nil]); first | done | rfl | (simp only [List.length_drop, List.length_take]; rfl)) ?_
             with_reducible refine (drachmref07_Kind.calls kj7 a0 (bt a1 a2) t124 _ A58.out).mono ?_
             rintro e w63 ⟨rfl, hb⟩
             refine ⟨_, rfl, ?_⟩
             replace BK111 := kb BK111 hb
             replace HB := sb HB hb
             (try clear hb)
             (try clear hb2)
             (try clear hk)
             (try clear hi)
             refine hK.out _ _ trivial (fun hHeld => ?_)
             clear hK K
             refine norm_ (a' := ?_) ?_ ?_
             rotate_left
             ·show Act.put _ (some 76) _ = _
              simp only [Act.put, List.setIfInBounds_toArray, List.set_cons_zero, List.set_cons_succ, i64_w, i32_w]
              rfl
             refine pure_ (i := 11) (N := some 83) (v := ?_) (a' := ?_) #[true, true, true, true, true, true, true, true, true, true, true, true, false, false] rfl rfl (any_of HT_.out (by kernel_rfl)) (fun _ _ _ h => h) (Or.inl ⟨by rfl, ?_⟩) ?_ ?_
             rotate_left
             ·intro w'
              go_simp
              first | with_reducible rfl | (rw [if_neg (by simp only [lit_size, List.length_cons, List.length_nil, ByteArray.size_extract, ByteArray.size_append, eq_iff_iff, iff_true, iff_false] at *; omega)])
             rotate_left
             ·simp only [Act.put, List.setIfInBounds_toArray, List.set_cons_zero, List.set_cons_succ, i64_w, i32_w]
              rfl
             refine pure_ (i := 12) (N := some 84) (v := ?_) (a' := ?_) #[true, true, true, true, true, true, true, true, true, true, true, true, true, false] rfl rfl (any_of HT_.out (by kernel_rfl)) (fun _ _ _ h => h) (Or.inl ⟨by rfl, ?_⟩) ?_ ?_
             rotate_left
             ·intro w'
              go_simp
              first | with_reducible rfl | (rw [if_neg (by simp only [lit_size, List.length_cons, List.length_nil, ByteArray.size_extract, ByteArray.size_append, eq_iff_iff, iff_true, iff_false] at *; omega)])
             rotate_left
             ·simp only [Act.put, List.setIfInBounds_toArray, List.set_cons_zero, List.set_cons_succ, i64_w, i32_w]
              rfl
             refine one_ (i := 13) (N := none) #[true, true, true, true, true, true, true, true, true, true, true, true, true, true] rfl rfl (one_of HT_.out (by kernel_rfl)) (by decide) (fun K hK => ?_)
             have hs64 : w63.cell? ⟨gb111, 0, none⟩ = some (.int .i64 0) := (blk_cell BK111.out 0).trans rfl
             have hfs64 := blk_frozen BK111.out 0
             have hs65 : w63.cell? ⟨gb111, 1, none⟩ = some (.int .i64 0) := (blk_cell BK111.out 1).trans rfl
             have hfs65 := blk_frozen BK111.out 1
             have hs66 : w63.cell? ⟨gb111, 2, none⟩ = some (.string (⟨#[]⟩ : ByteArray)) := (blk_cell BK111.out 2).trans rfl
             have hfs66 := blk_frozen BK111.out 2
             have hs67 : w63.cell? ⟨gb111, 3, none⟩ = some (.int .i64 0) := (blk_cell BK111.out 3).trans rfl
             have hfs67 := blk_frozen BK111.out 3
             have hs68 : w63.cell? ⟨gb111, 4, none⟩ = some (.int .i64 0) := (blk_cell BK111.out 4).trans rfl
             have hfs68 := blk_frozen BK111.out 4
             refine skip_ (w1 := ?_) (by rfl) rfl ?_ ?_
             rotate_left
             ·go_simp
              rfl
             refine hK.out _ _ trivial (fun hHeld => ?_)
             clear hK K
             refine done_ (done_of HT_.out (by kernel_rfl)) ?_
             try go_wp2
             refine bodyPost_ret (results_cell_row rfl _ _ gb111 69 #[.int .i64 t124, .int .i64 a2, .string (a1.extract (a2 : Int).toNat ((wrap64 (a2 + 1)) : Int).toNat), .int .i64 0, .int .i64 1] (0, 0) _ rfl (kp (p5_4 (kp (p5_3 (kp (p5_2 (kp (p5_1 (kp (p5_0 (kp BK111.out))))))))))) Tryd.underlying69 rfl (by kernel_rfl)) rfl ?_
             exact ⟨by first | rfl | (simp [errW_none, errW_some] <;> rfl) | (simp [*, errW_none, errW_some] <;> rfl), bl HB.out⟩
            ·rw [if_neg c61] at H
             exact absurd H (by simp)
           ·rw [if_neg c60] at H
            exact absurd H (by simp)
          ·rw [if_neg c56] at H
           exact absurd H (by simp)
         ·rw [if_neg c55] at H
          exact absurd H (by simp)
  ·rw [if_neg c5] at H
   exact absurd H (by simp)
 ·rw [if_neg c4] at H
  exact absurd H (by simp)

/-! ### drachmref08_Each: function 22 -/
def drachmref08_Each.l0 : Nat → Int → ByteArray → List (S31) → Int → Option ((List (S31)) × Int)
 | 0, _, _, _, _ => none
 | k + 1, x0, x1, x127000, x127001 => if x127001 < (x1.size : Int) then ((drachmref08_Next.f k x0 x1 x127001).bind fun bt127 => (if bt127.2.2.2.2 = 0 then (some (x127000, x127001)) else (if x127000.length < 3518437208883 then (drachmref08_Each.l0 k x0 x1 (x127000 ++ [(⟨bt127.1, bt127.2.1, bt127.2.2.1, bt127.2.2.2.1⟩ : S31)]) (wrap64 (x127001 + bt127.2.2.2.2))) else (none)))) else (some (x127000, x127001))
def drachmref08_Each.f (k : Nat) (a0 : Int) (a1 : ByteArray) : Option ((List (S31)) × Int) := drachmref08_Each.l0 k a0 a1 ([] : List (S31)) 0
theorem drachmref08_Each.mono_l : ∀ k, (∀ y0 y1 y2 y3, LeO (drachmref08_Each.l0 k y0 y1 y2 y3) (drachmref08_Each.l0 (k + 1) y0 y1 y2 y3))
 | 0 => fun _ _ _ _ r h => by simp [drachmref08_Each.l0] at h
 | k + 1 => by
  have ih0 := drachmref08_Each.mono_l k
  ·intro y0 y1 y2 y3
   unfold drachmref08_Each.l0
   repeat' first
   | (with_reducible exact ih0 _ _ _ _)
   | (with_reducible exact drachmref08_Next.mono _ _ _ _)
   | (with_reducible exact LeO.refl _)
   | (with_reducible exact LeO.none _)
   | (with_reducible refine LeO.ite ?_ ?_)
   | (with_reducible refine LeO.bind ?_ (fun _ => ?_))
   | exact ih0 _ _ _ _
   | exact drachmref08_Next.mono _ _ _ _
   | exact LeO.none _
   | refine LeO.ite ?_ ?_
   | refine LeO.bind ?_ (fun _ => ?_)
theorem drachmref08_Each.mono : ∀ a0 a1 k, LeO (drachmref08_Each.f k a0 a1) (drachmref08_Each.f (k + 1) a0 a1) := by
 intro a0 a1 k
 have ih0 := drachmref08_Each.mono_l k
 unfold drachmref08_Each.f
 repeat' first
   | (with_reducible exact ih0 _ _ _ _)
   | (with_reducible exact drachmref08_Next.mono _ _ _ _)
   | (with_reducible exact LeO.refl _)
   | (with_reducible exact LeO.none _)
   | (with_reducible refine LeO.ite ?_ ?_)
   | (with_reducible refine LeO.bind ?_ (fun _ => ?_))
   | exact ih0 _ _ _ _
   | exact drachmref08_Next.mono _ _ _ _
   | exact LeO.none _
   | refine LeO.ite ?_ ?_
   | refine LeO.bind ?_ (fun _ => ?_)
set_option maxHeartbeats 8000000 in
set_option maxRecDepth 100000 in
theorem drachmref08_Each.calls (k : Nat) (a0 : Int) (a1 : ByteArray) (r1 : List (S31)) (r2 : Int) (w : World) (h : drachmref08_Each.f k a0 a1 = some (r1, r2)) :
  Calls Tryd.prog 22 #[.int .i64 a0, .string a1] w fun e w' => ∃ v0_ : Value, e = .returned (.agg #[v0_, .int .i64 r2]) ∧ Kd.R k31 31 w' w.heap.size (fun _ => True) v0_ r1 ∧ Below w.heap.size w w' := by
 have hu51 := Tryd.underlying51
 have hu69 := Tryd.underlying69
 have hu31 := Tryd.underlying31
 have HB := Aside0.mk (Below.refl w.heap.size w)
 have H : (drachmref08_Each.l0 k a0 a1 ([] : List (S31)) 0) = some (r1, r2) := h
 clear h
 have H' := Aside0.mk H
 clear H
 go_enter Tryd.func22, Tryd.ntmps22
 go_wp2_with (first | ((with_reducible refine gate_dst (N := 4) rfl ?_); refine box_event ?hg (N := 4) ?hd (cs := #[.slice none 0 0, .int .i64 0]) (t := 51) ?hr ?_; (case hd => rfl); (case hg => rfl); (case hr => first | (go_simp; done) | (go_simp; rfl)); intro gb125 hg w3 hbox hb; have n0_ := sb HB hb; have n1_ := Aside0.mk (hbox); have n2_ := Aside0.mk ((by rw [hg]; exact (below_size (bl HB.out)) : w.heap.size ≤ gb125)); have n3_ := Aside0.mk ((by rw [hg]; exact (below_size (bl HB.out)) : w.heap.size ≤ gb125)); clear HB; have HB := n0_; have BK125 := n1_; have GW125 := n2_; have GE125 := n3_; clear n0_ n1_ n2_ n3_; clear hb hbox hg) | ((with_reducible refine gate_dst (N := 5) rfl ?_); refine box_event ?hg (N := 5) ?hd (cs := #[.slice none 0 0, .int .i64 0]) (t := 51) ?hr ?_; (case hd => rfl); (case hg => rfl); (case hr => first | (go_simp; done) | (go_simp; rfl)); intro gb126 hg w4 hbox hb; have n0_ := kb BK125 hb; have n1_ := sb HB hb; have n2_ := Aside0.mk (hbox); have n3_ := Aside0.mk ((by rw [hg]; exact (below_size (bl HB.out)) : w.heap.size ≤ gb126)); have n4_ := Aside0.mk ((by rw [hg]; exact (below_size (bl HB.out)) : w.heap.size ≤ gb126)); have n5_ := Aside0.mk ((by rw [hg]; exact Nat.ne_of_lt (blk_lt (kp BK125.out)) : gb125 ≠ gb126)); have n6_ := Aside0.mk ((by rw [hg]; exact Nat.ne_of_gt (blk_lt (kp BK125.out)) : gb126 ≠ gb125)); clear BK125; clear HB; have BK125 := n0_; have HB := n1_; have BK126 := n2_; have GW126 := n3_; have GE126 := n4_; have NB125_126 := n5_; have NB126_125 := n6_; clear n0_ n1_ n2_ n3_ n4_ n5_ n6_; clear hb hbox hg; have hnb5 := NB126_125.out; have hnc5 := NB125_126.out; obtain ⟨hcz6_0, hcz6_1⟩ := hc2 BK126.out; obtain ⟨hfz6_0, hfz6_1⟩ := hf2 BK126.out))
 go_loopg [] k (fun kq w' => ∃ (x126001_1 : Int) (x127000_1 : List (S31)) (x127001_1 : Int) (u127000 : Value), Aside0 (drachmref08_Each.l0 kq a0 a1 x127000_1 x127001_1 = some (r1, r2)) ∧ Aside0 (kq ≤ k) ∧ Aside0 (Kd.R k31 31 w' w.heap.size (fun _ => True) u127000 x127000_1) ∧ Aside0 (w'.heap[gb125]? = some (.cells #[(.slice none 0 0), .int .i64 x126001_1] 51 (0, 0))) ∧ Aside0 (w'.heap[gb126]? = some (.cells #[u127000, .int .i64 x127001_1] 51 (0, 0))) ∧ Aside0 (Below w.heap.size w w'))
 case atStart => exact ⟨(0), (([] : List (S31))), (0), (.slice none 0 0), H', ⟨Nat.le_refl _⟩, ⟨by first | exact Kd.R_nil _ _ _ _ _ | exact Kd.N_nil _ _ _ _ _ | exact Kd.V_nil _ _ _ _ _ | exact Kd.Q_nil _ _ _ _ _ | exact Kd.S_nil _ _ _ _ _⟩, ⟨kp BK125.out⟩, ⟨kp (p2_1 (kp (p2_0 (kp BK126.out))))⟩, ⟨bl HB.out⟩⟩
 case round =>
  clear H'
  try clear c2
  try clear p2
  try clear c5
  try clear hcz6_0 hcz6_1
  try clear hfz6_0 hfz6_1
  obtain ⟨x126001_1, x127000_1, x127001_1, u127000, HA, HK1, HO_127000, BK125, BK126, HB⟩ := hrel
  cases gk with
  | zero => exact absurd HA.out (by simp [drachmref08_Each.l0])
  | succ k1 =>
   have H := HA.out
   clear HA
   simp only [drachmref08_Each.l0] at H
   by_cases c7 : x127001_1 < (a1.size : Int)
   ·rw [if_pos c7] at H
    have c7b0 : decide (x127001_1 < (a1.size : Int)) = true := decide_eq_true c7
    clear c7
    replace H := Option.bind_eq_some_iff.mp H
    obtain ⟨⟨t127, t128, t129, t130, t131⟩, A80, H⟩ := H
    replace H : (if t131 = 0 then (some (x127000_1, x127001_1)) else (if x127000_1.length < 3518437208883 then (drachmref08_Each.l0 k1 a0 a1 (x127000_1 ++ [(⟨t127, t128, t129, t130⟩ : S31)]) (wrap64 (x127001_1 + t131))) else (none))) = some (r1, r2) := H
    have A8 := Aside0.mk A80
    clear A80
    by_cases c9 : t131 = 0
    ·rw [if_pos c9] at H
     have c9b0 : (t131 == 0) = true := beq_iff_eq.mpr c9
     have c9b1 : (t131 != 0) = false := bne_eq_false_iff_eq.mpr c9
     clear c9
     simp only [Option.some.injEq, Prod.mk.injEq] at H
     obtain ⟨rfl, rfl⟩ := H
     have hnb10 := NB126_125.out
     have hnc10 := NB125_126.out
     obtain ⟨hcz11_0, hcz11_1⟩ := hc2 BK126.out
     obtain ⟨hfz11_0, hfz11_1⟩ := hf2 BK126.out
     go_wp2_with (first | (go_at_call 30; (with_reducible refine (drachmref08_Next.calls k1 a0 a1 x127001_1 t127 t128 t129 t130 t131 _ A8.out).mono ?_); rintro e w12 ⟨rfl, hb⟩; have n0_ := Aside0.mk (Kd.R_below (by (with_reducible repeat (first | apply Kd.R_alloc | apply Kd.R_drewN | apply Kd.R_drew)); exact HO_127000.out) hb); have n1_ := kb BK125 hb; have n2_ := kb BK126 hb; have n3_ := sb HB hb; clear HO_127000; clear BK125; clear BK126; clear HB; have HO_127000 := n0_; have BK125 := n1_; have BK126 := n2_; have HB := n3_; clear n0_ n1_ n2_ n3_; (try clear hb); (try clear hb2); (try clear hk); (try clear hi)) | ((with_reducible refine gate_dst (N := 6) rfl ?_); refine box_event ?hg (N := 6) ?hd (cs := #[.int .i64 0, .int .i64 0, .string (⟨#[]⟩ : ByteArray), .int .i64 0, .int .i64 0]) (t := 69) ?hr ?_; (case hd => rfl); (case hg => rfl); (case hr => first | (go_simp; done) | (go_simp; rfl)); intro gb132 hg w13 hbox hb; have n0_ := Aside0.mk (Kd.R_below (by (with_reducible repeat (first | apply Kd.R_alloc | apply Kd.R_drewN | apply Kd.R_drew)); exact HO_127000.out) hb); have n1_ := kb BK125 hb; have n2_ := kb BK126 hb; have n3_ := sb HB hb; have n4_ := Aside0.mk (hbox); have n5_ := Aside0.mk ((by rw [hg]; exact (below_size (bl HB.out)) : w.heap.size ≤ gb132)); have n6_ := Aside0.mk ((by rw [hg]; exact (below_size (bl HB.out)) : w.heap.size ≤ gb132)); have n7_ := Aside0.mk ((by rw [hg]; exact Nat.ne_of_lt (blk_lt (kp BK125.out)) : gb125 ≠ gb132)); have n8_ := Aside0.mk ((by rw [hg]; exact Nat.ne_of_gt (blk_lt (kp BK125.out)) : gb132 ≠ gb125)); have n9_ := Aside0.mk ((by rw [hg]; exact Nat.ne_of_lt (blk_lt (kp BK126.out)) : gb126 ≠ gb132)); have n10_ := Aside0.mk ((by rw [hg]; exact Nat.ne_of_gt (blk_lt (kp BK126.out)) : gb132 ≠ gb126)); clear HO_127000; clear BK125; clear BK126; clear HB; have HO_127000 := n0_; have BK125 := n1_; have BK126 := n2_; have HB := n3_; have BK132 := n4_; have GW132 := n5_; have GE132 := n6_; have NB125_132 := n7_; have NB132_125 := n8_; have NB126_132 := n9_; have NB132_126 := n10_; clear n0_ n1_ n2_ n3_ n4_ n5_ n6_ n7_ n8_ n9_ n10_; clear hb hbox hg; have hnb14 := NB132_125.out; have hnc14 := NB125_132.out; have hnb15 := NB132_126.out; have hnc15 := NB126_132.out; obtain ⟨hcz16_0, hcz16_1, hcz16_2, hcz16_3, hcz16_4⟩ := hc5 BK132.out; obtain ⟨hfz16_0, hfz16_1, hfz16_2, hfz16_3, hfz16_4⟩ := hf5 BK132.out; obtain ⟨hcz17_0, hcz17_1⟩ := hc2 BK126.out; obtain ⟨hfz17_0, hfz17_1⟩ := hf2 BK126.out; obtain ⟨Ao18, co18, eo18⟩ := Kd.R_slice HO_127000.out; subst eo18; obtain ⟨hcz19_0, hcz19_1⟩ := hc2 BK125.out; obtain ⟨hfz19_0, hfz19_1⟩ := hf2 BK125.out))
     refine bodyPost_ret (results_cell_row rfl _ _ gb125 51 #[.slice Ao18 x127000_1.length co18, .int .i64 x127001_1] (0, 0) _ rfl (kp (p2_1 (kp (p2_0 (kp BK125.out))))) Tryd.underlying51 rfl (by kernel_rfl)) rfl ?_
     exact ⟨_, by first | rfl | (simp [errW_none, errW_some] <;> rfl) | (simp [*, errW_none, errW_some] <;> rfl), by (with_reducible repeat (first | apply Kd.R_alloc | apply Kd.R_drewN | apply Kd.R_drew)); exact Kd.R_mono (Kd.R_far (p := ⟨gb125, 1, none⟩) (Kd.R_far (p := ⟨gb125, 0, none⟩) (Kd.R_far (p := ⟨gb132, 4, none⟩) (Kd.R_far (p := ⟨gb132, 3, none⟩) (Kd.R_far (p := ⟨gb132, 2, none⟩) (Kd.R_far (p := ⟨gb132, 1, none⟩) (Kd.R_far (p := ⟨gb132, 0, none⟩) (Kd.R_types (Kd.R_types HO_127000.out BK132.out (by decide)) BK125.out (by decide)) (fun _ hk => hk.1.2) (.int .i64 t127)) (fun _ hk => hk.1.2) (.int .i64 t128)) (fun _ hk => hk.1.2) (.string t129)) (fun _ hk => hk.1.2) (.int .i64 t130)) (fun _ hk => hk.1.2) (.int .i64 t131)) (fun _ hk => hk.2) (.slice Ao18 x127000_1.length co18)) (fun _ hk => hk.2) (.int .i64 x127001_1)) (fun _ hk => trivial), bl HB.out⟩
    ·rw [if_neg c9] at H
     have c9b0 : (t131 == 0) = false := beq_eq_false_iff_ne.mpr c9
     have c9b1 : (t131 != 0) = true := bne_iff_ne.mpr c9
     by_cases c20 : x127000_1.length < 3518437208883
     ·rw [if_pos c20] at H
      have LMc20 := Aside0.mk c20
      clear c20
      obtain ⟨y133, hy133⟩ : ∃ y_ : List (S31), y_ = (x127000_1 ++ [(⟨t127, t128, t129, t130⟩ : S31)]) := ⟨_, rfl⟩
      replace H : (drachmref08_Each.l0 k1 a0 a1 y133 (wrap64 (x127001_1 + t131))) = some (r1, r2) := by first | (rw [hy133]; with_reducible exact H) | (have H2_ := (Option.bind_some _ _).symm.trans H; rw [hy133]; with_reducible exact H2_) | (have H2_ := (Option.bind_some _ _).symm.trans H; with_reducible exact H2_) | with_reducible exact H | (rw [hy133]; exact H) | exact H
      have Ny133 := Aside0.mk hy133
      clear hy133
      have H' := Aside0.mk H
      clear H
      have hnb21 := NB126_125.out
      have hnc21 := NB125_126.out
      obtain ⟨hcz22_0, hcz22_1⟩ := hc2 BK126.out
      obtain ⟨hfz22_0, hfz22_1⟩ := hf2 BK126.out
      go_wp2_with (first | (go_at_call 30; (with_reducible refine (drachmref08_Next.calls k1 a0 a1 x127001_1 t127 t128 t129 t130 t131 _ A8.out).mono ?_); rintro e w23 ⟨rfl, hb⟩; have n0_ := Aside0.mk (Kd.R_below (by (with_reducible repeat (first | apply Kd.R_alloc | apply Kd.R_drewN | apply Kd.R_drew)); exact HO_127000.out) hb); have n1_ := kb BK125 hb; have n2_ := kb BK126 hb; have n3_ := sb HB hb; clear HO_127000; clear BK125; clear BK126; clear HB; have HO_127000 := n0_; have BK125 := n1_; have BK126 := n2_; have HB := n3_; clear n0_ n1_ n2_ n3_; (try clear hb); (try clear hb2); (try clear hk); (try clear hi)) | ((with_reducible refine gate_dst (N := 6) rfl ?_); refine box_event ?hg (N := 6) ?hd (cs := #[.int .i64 0, .int .i64 0, .string (⟨#[]⟩ : ByteArray), .int .i64 0, .int .i64 0]) (t := 69) ?hr ?_; (case hd => rfl); (case hg => rfl); (case hr => first | (go_simp; done) | (go_simp; rfl)); intro gb132 hg w24 hbox hb; have n0_ := Aside0.mk (Kd.R_below (by (with_reducible repeat (first | apply Kd.R_alloc | apply Kd.R_drewN | apply Kd.R_drew)); exact HO_127000.out) hb); have n1_ := kb BK125 hb; have n2_ := kb BK126 hb; have n3_ := sb HB hb; have n4_ := Aside0.mk (hbox); have n5_ := Aside0.mk ((by rw [hg]; exact (below_size (bl HB.out)) : w.heap.size ≤ gb132)); have n6_ := Aside0.mk ((by rw [hg]; exact (below_size (bl HB.out)) : w.heap.size ≤ gb132)); have n7_ := Aside0.mk ((by rw [hg]; exact Nat.ne_of_lt (blk_lt (kp BK125.out)) : gb125 ≠ gb132)); have n8_ := Aside0.mk ((by rw [hg]; exact Nat.ne_of_gt (blk_lt (kp BK125.out)) : gb132 ≠ gb125)); have n9_ := Aside0.mk ((by rw [hg]; exact Nat.ne_of_lt (blk_lt (kp BK126.out)) : gb126 ≠ gb132)); have n10_ := Aside0.mk ((by rw [hg]; exact Nat.ne_of_gt (blk_lt (kp BK126.out)) : gb132 ≠ gb126)); clear HO_127000; clear BK125; clear BK126; clear HB; have HO_127000 := n0_; have BK125 := n1_; have BK126 := n2_; have HB := n3_; have BK132 := n4_; have GW132 := n5_; have GE132 := n6_; have NB125_132 := n7_; have NB132_125 := n8_; have NB126_132 := n9_; have NB132_126 := n10_; clear n0_ n1_ n2_ n3_ n4_ n5_ n6_ n7_ n8_ n9_ n10_; clear hb hbox hg; have hnb25 := NB132_125.out; have hnc25 := NB125_132.out; have hnb26 := NB132_126.out; have hnc26 := NB126_132.out; obtain ⟨hcz27_0, hcz27_1, hcz27_2, hcz27_3, hcz27_4⟩ := hc5 BK132.out; obtain ⟨hfz27_0, hfz27_1, hfz27_2, hfz27_3, hfz27_4⟩ := hf5 BK132.out; obtain ⟨hcz28_0, hcz28_1⟩ := hc2 BK126.out; obtain ⟨hfz28_0, hfz28_1⟩ := hf2 BK126.out) | ((with_reducible refine gate_builtin (b := .append) (xs := #[.tmp 23, .tmp 26]) rfl ?_); at_builtin; refine Kd.R_append k31 (w0 := w) w.heap.size rfl (.tmp 23) (.tmp 26) 28 31 (.agg #[(.int .i64 0), (.int .i64 0), (.string ⟨#[]⟩), (.int .i64 0)]) 40 rfl Tryd.underlying28 info31 rfl (by decide) (by omega) u127000 x127000_1 (⟨t127, t128, t129, t130⟩ : S31) [.int .i64 t127, .int .i64 t128, .string t129, .int .i64 t130] (fun _ => True) (fun _ => False) rfl (by first | (go_simp; done) | (go_simp; rfl)) ?aP (fun _ hk => hk.elim) ?aF ?aO ?aB ?aS ?aL ?_; (case aP => exact k31_mkM _ _ _ (⟨t127, t128, t129, t130⟩ : S31)); (case aB => exact (bl HB.out)); (case aF => exact (fun _ _ => trivial)); (case aO => exact (by (with_reducible repeat (first | apply Kd.R_alloc | apply Kd.R_drewN | apply Kd.R_drew)); exact Kd.R_mono (Kd.R_far (p := ⟨gb132, 4, none⟩) (Kd.R_far (p := ⟨gb132, 3, none⟩) (Kd.R_far (p := ⟨gb132, 2, none⟩) (Kd.R_far (p := ⟨gb132, 1, none⟩) (Kd.R_far (p := ⟨gb132, 0, none⟩) (Kd.R_types HO_127000.out BK132.out (by decide)) (fun _ hk => hk.2) (.int .i64 t127)) (fun _ hk => hk.2) (.int .i64 t128)) (fun _ hk => hk.2) (.string t129)) (fun _ hk => hk.2) (.int .i64 t130)) (fun _ hk => hk.2) (.int .i64 t131)) (fun _ hk => trivial))); (case aS => exact (below_size (bl HB.out))); (case aL => have := LMc20.out; omega); intro v134 w29 ho hb hg hat; rw [← Ny133.out] at ho; have HO135 := Aside0.mk (ho); replace BK125 := Aside0.mk (blk_grown (kp BK125.out) hg (Kd.R_ne HO_127000.out BK125.out (by decide))); replace BK126 := Aside0.mk (blk_grown (kp BK126.out) hg (Kd.R_ne HO_127000.out BK126.out (by decide))); replace BK132 := Aside0.mk (blk_grown (kp (p5_4 (kp (p5_3 (kp (p5_2 (kp (p5_1 (kp (p5_0 (kp BK132.out))))))))))) hg (Kd.R_ne HO_127000.out BK132.out (by decide))); replace HB := Aside0.mk (hb); clear HO_127000; clear ho hb hg hat; obtain ⟨Ao30, co30, eo30⟩ := Kd.R_slice HO135.out; subst eo30; obtain ⟨hcz31_0, hcz31_1⟩ := hc2 BK126.out; obtain ⟨hfz31_0, hfz31_1⟩ := hf2 BK126.out; obtain ⟨hcz32_0, hcz32_1, hcz32_2, hcz32_3, hcz32_4⟩ := hc5 BK132.out; obtain ⟨hfz32_0, hfz32_1, hfz32_2, hfz32_3, hfz32_4⟩ := hf5 BK132.out))
      go_roundg k1
      case measure => have := HK1.out; omega
      case rel => exact ⟨(x126001_1), (y133), (wrap64 (x127001_1 + t131)), (.slice Ao30 y133.length co30), H', ⟨by have := HK1.out; omega⟩, ⟨by (with_reducible repeat (first | apply Kd.R_alloc | apply Kd.R_drewN | apply Kd.R_drew)); exact Kd.R_mono (Kd.R_far (p := ⟨gb126, 1, none⟩) (Kd.R_far (p := ⟨gb126, 0, none⟩) (Kd.R_types HO135.out BK126.out (by decide)) (fun _ hk => hk.2) (.slice Ao30 y133.length co30)) (fun _ hk => hk.2) (.int .i64 (wrap64 (x127001_1 + t131)))) (fun _ hk => trivial)⟩, ⟨kp BK125.out⟩, ⟨kp (p2_1 (kp (p2_0 (kp BK126.out))))⟩, ⟨bl HB.out⟩⟩
     ·rw [if_neg c20] at H
      exact absurd H (by simp)
   ·rw [if_neg c7] at H
    have c7b0 : decide (x127001_1 < (a1.size : Int)) = false := decide_eq_false c7
    clear c7
    simp only [Option.some.injEq, Prod.mk.injEq] at H
    obtain ⟨rfl, rfl⟩ := H
    have hnb33 := NB126_125.out
    have hnc33 := NB125_126.out
    obtain ⟨hcz34_0, hcz34_1⟩ := hc2 BK126.out
    obtain ⟨hfz34_0, hfz34_1⟩ := hf2 BK126.out
    obtain ⟨Ao35, co35, eo35⟩ := Kd.R_slice HO_127000.out
    subst eo35
    obtain ⟨hcz36_0, hcz36_1⟩ := hc2 BK125.out
    obtain ⟨hfz36_0, hfz36_1⟩ := hf2 BK125.out
    go_wp2
    refine bodyPost_ret (results_cell_row rfl _ _ gb125 51 #[.slice Ao35 x127000_1.length co35, .int .i64 x127001_1] (0, 0) _ rfl (kp (p2_1 (kp (p2_0 (kp BK125.out))))) Tryd.underlying51 rfl (by kernel_rfl)) rfl ?_
    exact ⟨_, by first | rfl | (simp [errW_none, errW_some] <;> rfl) | (simp [*, errW_none, errW_some] <;> rfl), by (with_reducible repeat (first | apply Kd.R_alloc | apply Kd.R_drewN | apply Kd.R_drew)); exact Kd.R_mono (Kd.R_far (p := ⟨gb125, 1, none⟩) (Kd.R_far (p := ⟨gb125, 0, none⟩) (Kd.R_types HO_127000.out BK125.out (by decide)) (fun _ hk => hk.2) (.slice Ao35 x127000_1.length co35)) (fun _ hk => hk.2) (.int .i64 x127001_1)) (fun _ hk => trivial), bl HB.out⟩

/-! ### drachmref08_Lex: function 21 -/
def drachmref08_Lex.j0 : Nat → Int → ByteArray → Bool → Option ((List (S31)) × Int × Int)
 | 0, _, _, _ => none
 | k + 1, x0, x1, x11 => if x11 = true then (some (([] : List (S31)), 0, 1)) else (if (x1.size : Int) > 255 then (some (([] : List (S31)), 0, 12)) else ((drachmref08_Each.f k x0 x1).bind fun bt137 => (if bt137.2 < (x1.size : Int) then (some (([] : List (S31)), bt137.2, 14)) else (some (bt137.1, (x1.size : Int), 0)))))
def drachmref08_Lex.f (k : Nat) (a0 : Int) (a1 : ByteArray) : Option ((List (S31)) × Int × Int) := if a0 < 1 then (drachmref08_Lex.j0 k a0 a1 true) else (drachmref08_Lex.j0 k a0 a1 (decide (a0 > 5)))
theorem drachmref08_Lex.mono_l : ∀ k, (∀ y0 y1 y2, LeO (drachmref08_Lex.j0 k y0 y1 y2) (drachmref08_Lex.j0 (k + 1) y0 y1 y2))
 | 0 => fun _ _ _ r h => by simp [drachmref08_Lex.j0] at h
 | k + 1 => by
  have ih0 := drachmref08_Lex.mono_l k
  ·intro y0 y1 y2
   unfold drachmref08_Lex.j0
   repeat' first
   | (with_reducible exact ih0 _ _ _)
   | (with_reducible exact drachmref08_Each.mono _ _ _)
   | (with_reducible exact LeO.refl _)
   | (with_reducible exact LeO.none _)
   | (with_reducible refine LeO.ite ?_ ?_)
   | (with_reducible refine LeO.bind ?_ (fun _ => ?_))
   | exact ih0 _ _ _
   | exact drachmref08_Each.mono _ _ _
   | exact LeO.none _
   | refine LeO.ite ?_ ?_
   | refine LeO.bind ?_ (fun _ => ?_)
theorem drachmref08_Lex.mono : ∀ a0 a1 k, LeO (drachmref08_Lex.f k a0 a1) (drachmref08_Lex.f (k + 1) a0 a1) := by
 intro a0 a1 k
 have ih0 := drachmref08_Lex.mono_l k
 unfold drachmref08_Lex.f
 repeat' first
   | (with_reducible exact ih0 _ _ _)
   | (with_reducible exact drachmref08_Each.mono _ _ _)
   | (with_reducible exact LeO.refl _)
   | (with_reducible exact LeO.none _)
   | (with_reducible refine LeO.ite ?_ ?_)
   | (with_reducible refine LeO.bind ?_ (fun _ => ?_))
   | exact ih0 _ _ _
   | exact drachmref08_Each.mono _ _ _
   | exact LeO.none _
   | refine LeO.ite ?_ ?_
   | refine LeO.bind ?_ (fun _ => ?_)
set_option maxHeartbeats 8000000 in
set_option maxRecDepth 100000 in
theorem drachmref08_Lex.calls (k : Nat) (a0 : Int) (a1 : ByteArray) (r1 : List (S31)) (r2 : Int) (r3 : Int) (w : World) (h : drachmref08_Lex.f k a0 a1 = some (r1, r2, r3)) :
  Calls Tryd.prog 21 #[.int .i64 a0, .string a1] w fun e w' => ∃ v0_ : Value, e = .returned (.agg #[v0_, .int .i64 r2, .int .i64 r3]) ∧ Kd.R k31 31 w' w.heap.size (fun _ => True) v0_ r1 ∧ Below w.heap.size w w' := by
 have hu48 := Tryd.underlying48
 have hu51 := Tryd.underlying51
 have HB := Aside0.mk (Below.refl w.heap.size w)
 have H : (if a0 < 1 then (drachmref08_Lex.j0 k a0 a1 true) else (drachmref08_Lex.j0 k a0 a1 (decide (a0 > 5)))) = some (r1, r2, r3) := h
 clear h
 have HC3 := Aside0.mk H
 clear H
 go_enter Tryd.func21, Tryd.ntmps21
 go_upto_region 1 with (first | ((with_reducible refine gate_dst (N := 4) rfl ?_); refine box_event ?hg (N := 4) ?hd (cs := #[.slice none 0 0, .int .i64 0, .int .i64 0]) (t := 48) ?hr ?_; (case hd => rfl); (case hg => rfl); (case hr => first | (go_simp; done) | (go_simp; rfl)); intro gb136 hg w4 hbox hb; have n0_ := sb HB hb; have n1_ := Aside0.mk (hbox); have n2_ := Aside0.mk ((by rw [hg]; exact (below_size (bl HB.out)) : w.heap.size ≤ gb136)); have n3_ := Aside0.mk ((by rw [hg]; exact (below_size (bl HB.out)) : w.heap.size ≤ gb136)); clear HB; have HB := n0_; have BK136 := n1_; have GW136 := n2_; have GE136 := n3_; clear n0_ n1_ n2_ n3_; clear hb hbox hg))
 (try simp only [Act.put, List.setIfInBounds_toArray, List.set_cons_zero, List.set_cons_succ])
 go_cut [11] (fun v11 wc => ∃ (kq : Nat) (x11_2 : Bool), v11 = .bool x11_2 ∧ Aside0 (drachmref08_Lex.j0 kq a0 a1 x11_2 = some (r1, r2, r3)) ∧ Aside0 (kq ≤ k) ∧ Aside0 (wc.heap[gb136]? = some (.cells #[(.slice none 0 0), .int .i64 0, .int .i64 0] 48 (0, 0))) ∧ Aside0 (Below w.heap.size w wc))
 case first =>
  have H := HC3.out
  clear HC3
  by_cases c5 : a0 < 1
  ·rw [if_pos c5] at H
   have c5b0 : decide (a0 < 1) = true := decide_eq_true c5
   clear c5
   (first | rw [c5b0] | (simp only [i64_w, i32_w]; rw [c5b0]) | skip)
   have H' := Aside0.mk H
   clear H
   go_wp2
   go_meet
   case rel => exact ⟨_, (true), (by first | rfl | (simp; done) | (simp [*]; done)), H', ⟨by first | omega | exact Nat.le_refl _⟩, ⟨kp BK136.out⟩, ⟨bl HB.out⟩⟩
  ·rw [if_neg c5] at H
   have c5b0 : decide (a0 < 1) = false := decide_eq_false c5
   clear c5
   (first | rw [c5b0] | (simp only [i64_w, i32_w]; rw [c5b0]) | skip)
   have H' := Aside0.mk H
   clear H
   go_wp2
   go_meet
   case rel => exact ⟨_, (decide (a0 > 5)), (by first | rfl | (simp; done) | (simp [*]; done)), H', ⟨by first | omega | exact Nat.le_refl _⟩, ⟨kp BK136.out⟩, ⟨bl HB.out⟩⟩
 case rest =>
  clear HC3
  try clear c2
  try clear p2
  try clear c5
  try clear c5b0
  obtain ⟨kq, x11_2, rfl, HA, HJ2, BK136, HB⟩ := hcut
  cases kq with
  | zero => exact absurd HA.out (by simp [drachmref08_Lex.j0])
  | succ kj2 =>
   have H := HA.out
   clear HA
   simp only [drachmref08_Lex.j0] at H
   by_cases c6 : x11_2 = true
   ·subst c6
    have H1 : (some (([] : List (S31)), 0, 1)) = some (r1, r2, r3) := by rw [if_pos rfl] at H; exact H
    clear H
    have H := H1
    clear H1
    simp only [Option.some.injEq, Prod.mk.injEq] at H
    obtain ⟨rfl, rfl, rfl⟩ := H
    obtain ⟨hcz7_0, hcz7_1, hcz7_2⟩ := hc3 BK136.out
    obtain ⟨hfz7_0, hfz7_1, hfz7_2⟩ := hf3 BK136.out
    go_wp2
    refine bodyPost_ret (results_cell_row rfl _ _ gb136 48 #[.slice none 0 0, .int .i64 0, .int .i64 1] (0, 0) _ rfl (kp (p3_2 (kp (p3_1 (kp (p3_0 (kp BK136.out))))))) Tryd.underlying48 rfl (by kernel_rfl)) rfl ?_
    exact ⟨_, by first | rfl | (simp [errW_none, errW_some] <;> rfl) | (simp [*, errW_none, errW_some] <;> rfl), by first | exact Kd.R_nil _ _ _ _ _ | exact Kd.N_nil _ _ _ _ _ | exact Kd.V_nil _ _ _ _ _ | exact Kd.Q_nil _ _ _ _ _ | exact Kd.S_nil _ _ _ _ _, bl HB.out⟩
   ·replace c6 := Bool.eq_false_iff.mpr c6
    subst c6
    have H1 : (if (a1.size : Int) > 255 then (some (([] : List (S31)), 0, 12)) else ((drachmref08_Each.f kj2 a0 a1).bind fun bt137 => (if bt137.2 < (a1.size : Int) then (some (([] : List (S31)), bt137.2, 14)) else (some (bt137.1, (a1.size : Int), 0))))) = some (r1, r2, r3) := by rw [if_neg (show ¬ (false = true) by decide)] at H; exact H
    clear H
    have H := H1
    clear H1
    by_cases c8 : (a1.size : Int) > 255
    ·rw [if_pos c8] at H
     have c8b0 : decide (255 < (a1.size : Int)) = true := decide_eq_true c8
     have c8b1 : decide (255 < a1.size) = true := decide_eq_true (by omega)
     clear c8
     simp only [Option.some.injEq, Prod.mk.injEq] at H
     obtain ⟨rfl, rfl, rfl⟩ := H
     obtain ⟨hcz9_0, hcz9_1, hcz9_2⟩ := hc3 BK136.out
     obtain ⟨hfz9_0, hfz9_1, hfz9_2⟩ := hf3 BK136.out
     go_wp2
     refine bodyPost_ret (results_cell_row rfl _ _ gb136 48 #[.slice none 0 0, .int .i64 0, .int .i64 12] (0, 0) _ rfl (kp (p3_2 (kp (p3_1 (kp (p3_0 (kp BK136.out))))))) Tryd.underlying48 rfl (by kernel_rfl)) rfl ?_
     exact ⟨_, by first | rfl | (simp [errW_none, errW_some] <;> rfl) | (simp [*, errW_none, errW_some] <;> rfl), by first | exact Kd.R_nil _ _ _ _ _ | exact Kd.N_nil _ _ _ _ _ | exact Kd.V_nil _ _ _ _ _ | exact Kd.Q_nil _ _ _ _ _ | exact Kd.S_nil _ _ _ _ _, bl HB.out⟩
    ·rw [if_neg c8] at H
     have c8b0 : decide (255 < (a1.size : Int)) = false := decide_eq_false c8
     have c8b1 : decide (255 < a1.size) = false := decide_eq_false (by omega)
     clear c8
     replace H := Option.bind_eq_some_iff.mp H
     obtain ⟨⟨t137, t140⟩, A100, H⟩ := H
     replace H : (if t140 < (a1.size : Int) then (some (([] : List (S31)), t140, 14)) else (some (t137, (a1.size : Int), 0))) = some (r1, r2, r3) := H
     have A10 := Aside0.mk A100
     clear A100
     by_cases c11 : t140 < (a1.size : Int)
     ·rw [if_pos c11] at H
      have c11b0 : decide (t140 < (a1.size : Int)) = true := decide_eq_true c11
      clear c11
      simp only [Option.some.injEq, Prod.mk.injEq] at H
      obtain ⟨rfl, rfl, rfl⟩ := H
      go_wp2_with (first | (go_at_call 22; (with_reducible refine (drachmref08_Each.calls kj2 a0 a1 t137 t140 _ A10.out).mono ?_); rintro e w12 ⟨v138, rfl, ho0, hb⟩; have HO139 := Aside0.mk (Kd.R_lower ho0 (below_size (bl HB.out))); replace BK136 := kb BK136 hb; replace HB := sb HB hb; (try clear hb); (try clear hb2); (try clear hk); (try clear hi); (try clear ho0)) | ((with_reducible refine gate_dst (N := 5) rfl ?_); refine box_event ?hg (N := 5) ?hd (cs := #[.slice none 0 0, .int .i64 0]) (t := 51) ?hr ?_; (case hd => rfl); (case hg => rfl); (case hr => first | (go_simp; done) | (go_simp; rfl)); intro gb141 hg w13 hbox hb; have n0_ := Aside0.mk (Kd.R_below (by (with_reducible repeat (first | apply Kd.R_alloc | apply Kd.R_drewN | apply Kd.R_drew)); exact HO139.out) hb); have n1_ := kb BK136 hb; have n2_ := sb HB hb; have n3_ := Aside0.mk (hbox); have n4_ := Aside0.mk ((by rw [hg]; exact (below_size (bl HB.out)) : w.heap.size ≤ gb141)); have n5_ := Aside0.mk ((by rw [hg]; exact (below_size (bl HB.out)) : w.heap.size ≤ gb141)); have n6_ := Aside0.mk ((by rw [hg]; exact Nat.ne_of_lt (blk_lt (kp BK136.out)) : gb136 ≠ gb141)); have n7_ := Aside0.mk ((by rw [hg]; exact Nat.ne_of_gt (blk_lt (kp BK136.out)) : gb141 ≠ gb136)); clear HO139; clear BK136; clear HB; have HO139 := n0_; have BK136 := n1_; have HB := n2_; have BK141 := n3_; have GW141 := n4_; have GE141 := n5_; have NB136_141 := n6_; have NB141_136 := n7_; clear n0_ n1_ n2_ n3_ n4_ n5_ n6_ n7_; clear hb hbox hg; obtain ⟨Ao14, co14, eo14⟩ := Kd.R_slice HO139.out; subst eo14; have hnb15 := NB141_136.out; have hnc15 := NB136_141.out; obtain ⟨hcz16_0, hcz16_1⟩ := hc2 BK141.out; obtain ⟨hfz16_0, hfz16_1⟩ := hf2 BK141.out; obtain ⟨hcz17_0, hcz17_1, hcz17_2⟩ := hc3 BK136.out; obtain ⟨hfz17_0, hfz17_1, hfz17_2⟩ := hf3 BK136.out))
      refine bodyPost_ret (results_cell_row rfl _ _ gb136 48 #[.slice none 0 0, .int .i64 t140, .int .i64 14] (0, 0) _ rfl (kp (p3_2 (kp (p3_1 (kp (p3_0 (kp BK136.out))))))) Tryd.underlying48 rfl (by kernel_rfl)) rfl ?_
      exact ⟨_, by first | rfl | (simp [errW_none, errW_some] <;> rfl) | (simp [*, errW_none, errW_some] <;> rfl), by first | exact Kd.R_nil _ _ _ _ _ | exact Kd.N_nil _ _ _ _ _ | exact Kd.V_nil _ _ _ _ _ | exact Kd.Q_nil _ _ _ _ _ | exact Kd.S_nil _ _ _ _ _, bl HB.out⟩
     ·rw [if_neg c11] at H
      have c11b0 : decide (t140 < (a1.size : Int)) = false := decide_eq_false c11
      clear c11
      simp only [Option.some.injEq, Prod.mk.injEq] at H
      obtain ⟨rfl, rfl, rfl⟩ := H
      go_wp2_with (first | (go_at_call 22; (with_reducible refine (drachmref08_Each.calls kj2 a0 a1 t137 t140 _ A10.out).mono ?_); rintro e w18 ⟨v138, rfl, ho0, hb⟩; have HO139 := Aside0.mk (Kd.R_lower ho0 (below_size (bl HB.out))); replace BK136 := kb BK136 hb; replace HB := sb HB hb; (try clear hb); (try clear hb2); (try clear hk); (try clear hi); (try clear ho0)) | ((with_reducible refine gate_dst (N := 5) rfl ?_); refine box_event ?hg (N := 5) ?hd (cs := #[.slice none 0 0, .int .i64 0]) (t := 51) ?hr ?_; (case hd => rfl); (case hg => rfl); (case hr => first | (go_simp; done) | (go_simp; rfl)); intro gb141 hg w19 hbox hb; have n0_ := Aside0.mk (Kd.R_below (by (with_reducible repeat (first | apply Kd.R_alloc | apply Kd.R_drewN | apply Kd.R_drew)); exact HO139.out) hb); have n1_ := kb BK136 hb; have n2_ := sb HB hb; have n3_ := Aside0.mk (hbox); have n4_ := Aside0.mk ((by rw [hg]; exact (below_size (bl HB.out)) : w.heap.size ≤ gb141)); have n5_ := Aside0.mk ((by rw [hg]; exact (below_size (bl HB.out)) : w.heap.size ≤ gb141)); have n6_ := Aside0.mk ((by rw [hg]; exact Nat.ne_of_lt (blk_lt (kp BK136.out)) : gb136 ≠ gb141)); have n7_ := Aside0.mk ((by rw [hg]; exact Nat.ne_of_gt (blk_lt (kp BK136.out)) : gb141 ≠ gb136)); clear HO139; clear BK136; clear HB; have HO139 := n0_; have BK136 := n1_; have HB := n2_; have BK141 := n3_; have GW141 := n4_; have GE141 := n5_; have NB136_141 := n6_; have NB141_136 := n7_; clear n0_ n1_ n2_ n3_ n4_ n5_ n6_ n7_; clear hb hbox hg; obtain ⟨Ao20, co20, eo20⟩ := Kd.R_slice HO139.out; subst eo20; have hnb21 := NB141_136.out; have hnc21 := NB136_141.out; obtain ⟨hcz22_0, hcz22_1⟩ := hc2 BK141.out; obtain ⟨hfz22_0, hfz22_1⟩ := hf2 BK141.out; obtain ⟨hcz23_0, hcz23_1, hcz23_2⟩ := hc3 BK136.out; obtain ⟨hfz23_0, hfz23_1, hfz23_2⟩ := hf3 BK136.out))
      refine bodyPost_ret (results_cell_row rfl _ _ gb136 48 #[.slice Ao20 t137.length co20, .int .i64 (a1.size : Int), .int .i64 0] (0, 0) _ rfl (kp (p3_2 (kp (p3_1 (kp (p3_0 (kp BK136.out))))))) Tryd.underlying48 rfl (by kernel_rfl)) rfl ?_
      exact ⟨_, by first | rfl | (simp [errW_none, errW_some] <;> rfl) | (simp [*, errW_none, errW_some] <;> rfl), by (with_reducible repeat (first | apply Kd.R_alloc | apply Kd.R_drewN | apply Kd.R_drew)); exact Kd.R_mono (Kd.R_far (p := ⟨gb136, 2, none⟩) (Kd.R_far (p := ⟨gb136, 1, none⟩) (Kd.R_far (p := ⟨gb136, 0, none⟩) (Kd.R_far (p := ⟨gb141, 1, none⟩) (Kd.R_far (p := ⟨gb141, 0, none⟩) (Kd.R_types (Kd.R_types HO139.out BK141.out (by decide)) BK136.out (by decide)) (fun _ hk => hk.1.2) (.slice Ao20 t137.length co20)) (fun _ hk => hk.1.2) (.int .i64 t140)) (fun _ hk => hk.2) (.slice Ao20 t137.length co20)) (fun _ hk => hk.2) (.int .i64 (a1.size : Int))) (fun _ hk => hk.2) (.int .i64 0)) (fun _ hk => trivial), bl HB.out⟩

/-! ### drachmref08_Same: function 16 -/
def drachmref08_Same.l0 : Nat → List (S31) → List (S31) → Int → Option (Bool)
 | 0, _, _, _ => none
 | k + 1, x0, x1, x5 => if x5 < (x0.length : Int) then (if 0 ≤ x5 then (if x5 < (x1.length : Int) then (if (!(((rd_T31 x0 x5).f0) == ((rd_T31 x1 x5).f0)) || (!(((rd_T31 x0 x5).f1) == ((rd_T31 x1 x5).f1)) || (!((((rd_T31 x0 x5).f2).toList) == (((rd_T31 x1 x5).f2).toList)) || (!(((rd_T31 x0 x5).f3) == ((rd_T31 x1 x5).f3)))))) = true then (some false) else (drachmref08_Same.l0 k x0 x1 (wrap64 (x5 + 1)))) else (none)) else (none)) else (some true)
def drachmref08_Same.f (k : Nat) (l0 : List (S31)) (l1 : List (S31)) : Option (Bool) := if (l0.length : Int) = (l1.length : Int) then (drachmref08_Same.l0 k l0 l1 0) else (some false)
theorem drachmref08_Same.mono_l : ∀ k, (∀ y0 y1 y2, LeO (drachmref08_Same.l0 k y0 y1 y2) (drachmref08_Same.l0 (k + 1) y0 y1 y2))
 | 0 => fun _ _ _ r h => by simp [drachmref08_Same.l0] at h
 | k + 1 => by
  have ih0 := drachmref08_Same.mono_l k
  ·intro y0 y1 y2
   unfold drachmref08_Same.l0
   repeat' first
   | (with_reducible exact ih0 _ _ _)
   | (with_reducible exact LeO.refl _)
   | (with_reducible exact LeO.none _)
   | (with_reducible refine LeO.ite ?_ ?_)
   | (with_reducible refine LeO.bind ?_ (fun _ => ?_))
   | exact ih0 _ _ _
   | exact LeO.none _
   | refine LeO.ite ?_ ?_
   | refine LeO.bind ?_ (fun _ => ?_)
theorem drachmref08_Same.mono : ∀ a0 a1 k, LeO (drachmref08_Same.f k a0 a1) (drachmref08_Same.f (k + 1) a0 a1) := by
 intro a0 a1 k
 have ih0 := drachmref08_Same.mono_l k
 unfold drachmref08_Same.f
 repeat' first
   | (with_reducible exact ih0 _ _ _)
   | (with_reducible exact LeO.refl _)
   | (with_reducible exact LeO.none _)
   | (with_reducible refine LeO.ite ?_ ?_)
   | (with_reducible refine LeO.bind ?_ (fun _ => ?_))
   | exact ih0 _ _ _
   | exact LeO.none _
   | refine LeO.ite ?_ ?_
   | refine LeO.bind ?_ (fun _ => ?_)
set_option maxHeartbeats 8000000 in
set_option maxRecDepth 100000 in
theorem drachmref08_Same.calls (k : Nat) (A0 : Option Addr) (c0 : Nat) (l0 : List (S31)) (A1 : Option Addr) (c1 : Nat) (l1 : List (S31)) (r : Bool) (w : World) (hr0 : Kd.C k31 w A0 l0.length l0) (hc0 : l0.length ≤ c0) (hr1 : Kd.C k31 w A1 l1.length l1) (hc1 : l1.length ≤ c1) (h : drachmref08_Same.f k l0 l1 = some r) :
  Calls Tryd.prog 16 #[.slice A0 l0.length c0, .slice A1 l1.length c1] w fun e w' => e = .returned (.bool r) ∧ Drawn0 w w' := by
 have hu31 := Tryd.underlying31
 have HR0 := Aside0.mk hr0
 have HC0 := Aside0.mk hc0
 clear hr0 hc0
 have HR1 := Aside0.mk hr1
 have HC1 := Aside0.mk hc1
 clear hr1 hc1
 have H : (if (l0.length : Int) = (l1.length : Int) then (drachmref08_Same.l0 k l0 l1 0) else (some false)) = some r := h
 clear h
 by_cases c3 : (l0.length : Int) = (l1.length : Int)
 ·rw [if_pos c3] at H
  have c3b0 : ((l0.length : Int) == (l1.length : Int)) = true := beq_iff_eq.mpr c3
  have c3b1 : ((l0.length : Int) != (l1.length : Int)) = false := bne_eq_false_iff_eq.mpr c3
  have c3b2 : (l0.length == l1.length) = true := by first | simpa using c3 | (simp at c3 ⊢; omega)
  clear c3
  have H' := Aside0.mk H
  clear H
  go_enter Tryd.func16, Tryd.ntmps16
  go_wp2
  repeat (go_quiet (fail); try go_wp2)
  go_loopg [5] k (fun kq v5 w' => ∃ (x5_1 : Int), v5 = .int .i64 x5_1 ∧ Aside0 (drachmref08_Same.l0 kq l0 l1 x5_1 = some r) ∧ Aside0 (kq ≤ k) ∧ Drawn0 w w')
  case atStart => exact ⟨(0), (by first | rfl | (simp; done) | (simp [*]; done)), H', ⟨Nat.le_refl _⟩, by repeat (first | exact Drawn0.refl _ | apply Drawn0.step)⟩
  case round =>
   clear H'
   try clear c1
   try clear p2
   try clear c3
   try clear c3b0
   try clear c3b1
   try clear c3b2
   obtain ⟨x5_1, rfl, HA, HK1, ⟨m1, rfl⟩⟩ := hrel
   cases gk with
   | zero => exact absurd HA.out (by simp [drachmref08_Same.l0])
   | succ k1 =>
    have H := HA.out
    clear HA
    simp only [drachmref08_Same.l0] at H
    by_cases c4 : x5_1 < (l0.length : Int)
    ·rw [if_pos c4] at H
     have c4b0 : decide (x5_1 < (l0.length : Int)) = true := decide_eq_true c4
     clear c4
     by_cases c5 : 0 ≤ x5_1
     ·rw [if_pos c5] at H
      have c5b0 : decide (0 ≤ x5_1) = true := decide_eq_true c5
      clear c5
      by_cases c6 : x5_1 < (l1.length : Int)
      ·rw [if_pos c6] at H
       have c6b0 : decide (x5_1 < (l1.length : Int)) = true := decide_eq_true c6
       clear c6
       by_cases c7 : (!(((rd_T31 l0 x5_1).f0) == ((rd_T31 l1 x5_1).f0)) || (!(((rd_T31 l0 x5_1).f1) == ((rd_T31 l1 x5_1).f1)) || (!((((rd_T31 l0 x5_1).f2).toList) == (((rd_T31 l1 x5_1).f2).toList)) || (!(((rd_T31 l0 x5_1).f3) == ((rd_T31 l1 x5_1).f3)))))) = true
       ·rw [if_pos c7] at H
        have c7b0 : (!(((rd_T31 l0 x5_1).f0) == ((rd_T31 l1 x5_1).f0)) || (!(((rd_T31 l0 x5_1).f1) == ((rd_T31 l1 x5_1).f1)) || (!((((rd_T31 l0 x5_1).f2).toList) == (((rd_T31 l1 x5_1).f2).toList)) || (!(((rd_T31 l0 x5_1).f3) == ((rd_T31 l1 x5_1).f3)))))) = true := c7
        clear c7
        obtain rfl := Option.some.inj H
        have p142 : 0 ≤ (x5_1 : Int) := of_decide_eq_true (by first | (with_reducible assumption) | assumption)
        have q142 : x5_1 < (l0.length : Int) := of_decide_eq_true (by first | (with_reducible assumption) | assumption)
        obtain ⟨ad142, e142, hx142_0, hx142_1, hx142_2, hx142_3⟩ := at_T31 HR0.out x5_1 p142 q142
        cases e142
        replace p142 := eq_true p142
        replace q142 := eq_true q142
        have p143 : 0 ≤ (x5_1 : Int) := of_decide_eq_true (by first | (with_reducible assumption) | assumption)
        have q143 : x5_1 < (l1.length : Int) := of_decide_eq_true (by first | (with_reducible assumption) | assumption)
        obtain ⟨ad143, e143, hx143_0, hx143_1, hx143_2, hx143_3⟩ := at_T31 HR1.out x5_1 p143 q143
        cases e143
        replace p143 := eq_true p143
        replace q143 := eq_true q143
        go_wp2
        repeat (go_quiet (fail); try go_wp2)
        go_ret
        exact ⟨by first | rfl | (simp; done) | (simp [*]; done), by repeat (first | exact Drawn0.refl _ | apply Drawn0.step)⟩
       ·rw [if_neg c7] at H
        have c7b0 : (!(((rd_T31 l0 x5_1).f0) == ((rd_T31 l1 x5_1).f0)) || (!(((rd_T31 l0 x5_1).f1) == ((rd_T31 l1 x5_1).f1)) || (!((((rd_T31 l0 x5_1).f2).toList) == (((rd_T31 l1 x5_1).f2).toList)) || (!(((rd_T31 l0 x5_1).f3) == ((rd_T31 l1 x5_1).f3)))))) = false := by simpa using c7
        clear c7
        have H' := Aside0.mk H
        clear H
        have p142 : 0 ≤ (x5_1 : Int) := of_decide_eq_true (by first | (with_reducible assumption) | assumption)
        have q142 : x5_1 < (l0.length : Int) := of_decide_eq_true (by first | (with_reducible assumption) | assumption)
        obtain ⟨ad142, e142, hx142_0, hx142_1, hx142_2, hx142_3⟩ := at_T31 HR0.out x5_1 p142 q142
        cases e142
        replace p142 := eq_true p142
        replace q142 := eq_true q142
        have p143 : 0 ≤ (x5_1 : Int) := of_decide_eq_true (by first | (with_reducible assumption) | assumption)
        have q143 : x5_1 < (l1.length : Int) := of_decide_eq_true (by first | (with_reducible assumption) | assumption)
        obtain ⟨ad143, e143, hx143_0, hx143_1, hx143_2, hx143_3⟩ := at_T31 HR1.out x5_1 p143 q143
        cases e143
        replace p143 := eq_true p143
        replace q143 := eq_true q143
        go_wp2
        repeat (go_quiet (fail); try go_wp2)
        go_roundg k1
        case measure => have := HK1.out; omega
        case rel => exact ⟨(wrap64 (x5_1 + 1)), (by first | rfl | (simp; done) | (simp [*]; done)), H', ⟨by have := HK1.out; omega⟩, by repeat (first | exact Drawn0.refl _ | apply Drawn0.step)⟩
      ·rw [if_neg c6] at H
       exact absurd H (by simp)
     ·rw [if_neg c5] at H
      exact absurd H (by simp)
    ·rw [if_neg c4] at H
     have c4b0 : decide (x5_1 < (l0.length : Int)) = false := decide_eq_false c4
     clear c4
     obtain rfl := Option.some.inj H
     go_wp2
     repeat (go_quiet (fail); try go_wp2)
     go_ret
     exact ⟨by first | rfl | (simp; done) | (simp [*]; done), by repeat (first | exact Drawn0.refl _ | apply Drawn0.step)⟩
 ·rw [if_neg c3] at H
  have c3b0 : ((l0.length : Int) == (l1.length : Int)) = false := beq_eq_false_iff_ne.mpr c3
  have c3b1 : ((l0.length : Int) != (l1.length : Int)) = true := bne_iff_ne.mpr c3
  have c3b2 : (l0.length == l1.length) = false := by first | simpa using c3 | (simp at c3 ⊢; omega)
  obtain rfl := Option.some.inj H
  go_enter Tryd.func16, Tryd.ntmps16
  go_wp2
  repeat (go_quiet (fail); try go_wp2)
  go_ret
  exact ⟨by first | rfl | (simp; done) | (simp [*]; done), by repeat (first | exact Drawn0.refl _ | apply Drawn0.step)⟩

/-! ### drachmlaw08_rest: function 12 -/
def drachmlaw08_rest.f (a0 : Int) (a1 : Int) : Option (Int) := if a1 = 0 then (none) else (some (Int.tmod (wrap64 ((Int.tmod a0 a1) + a1)) a1))
set_option maxHeartbeats 8000000 in
set_option maxRecDepth 100000 in
theorem drachmlaw08_rest.calls (a0 : Int) (a1 : Int) (r : Int) (w : World) (h : drachmlaw08_rest.f a0 a1 = some r) :
  Calls Tryd.prog 12 #[.int .i64 a0, .int .i64 a1] w fun e w' => e = .returned (.int .i64 r) ∧ Drawn0 w w' := by
 have H : (if a1 = 0 then (none) else (some (Int.tmod (wrap64 ((Int.tmod a0 a1) + a1)) a1))) = some r := h
 clear h
 by_cases c3 : a1 = 0
 ·rw [if_pos c3] at H
  exact absurd H (by simp)
 ·rw [if_neg c3] at H
  have c3b0 : (a1 == 0) = false := beq_eq_false_iff_ne.mpr c3
  have c3b1 : (a1 != 0) = true := bne_iff_ne.mpr c3
  obtain rfl := Option.some.inj H
  go_enter Tryd.func12, Tryd.ntmps12
  go_wp2
  go_ret
  exact ⟨by first | rfl | (simp; done) | (simp [*]; done), by repeat (first | exact Drawn0.refl _ | apply Drawn0.step)⟩

/-! ### drachmlaw08_short: function 11 -/
def drachmlaw08_short.f (a0 : ByteArray) (a1 : Int) : Option (ByteArray) := if (a0.size : Int) > a1 then (if 0 ≤ a1 then (if a1 ≤ (a0.size : Int) then (some (a0.extract 0 (a1 : Int).toNat)) else (none)) else (none)) else (some a0)
set_option maxHeartbeats 8000000 in
set_option maxRecDepth 100000 in
theorem drachmlaw08_short.calls (a0 : ByteArray) (a1 : Int) (r : ByteArray) (w : World) (h : drachmlaw08_short.f a0 a1 = some r) :
  Calls Tryd.prog 11 #[.string a0, .int .i64 a1] w fun e w' => e = .returned (.string r) ∧ Drawn0 w w' := by
 have H : (if (a0.size : Int) > a1 then (if 0 ≤ a1 then (if a1 ≤ (a0.size : Int) then (some (a0.extract 0 (a1 : Int).toNat)) else (none)) else (none)) else (some a0)) = some r := h
 clear h
 by_cases c3 : (a0.size : Int) > a1
 ·rw [if_pos c3] at H
  have c3b0 : decide (a1 < (a0.size : Int)) = true := decide_eq_true c3
  clear c3
  by_cases c4 : 0 ≤ a1
  ·rw [if_pos c4] at H
   have c4b0 := eq_true c4
   have c4b1 : decide (0 ≤ a1) = true := decide_eq_true c4
   clear c4
   by_cases c5 : a1 ≤ (a0.size : Int)
   ·rw [if_pos c5] at H
    have c5b0 := eq_true c5
    have c5b1 : decide (a1 ≤ (a0.size : Int)) = true := decide_eq_true c5
    clear c5
    obtain rfl := Option.some.inj H
    go_enter Tryd.func11, Tryd.ntmps11
    go_wp2
    go_ret
    exact ⟨by first | rfl | (simp; done) | (simp [*]; done), by repeat (first | exact Drawn0.refl _ | apply Drawn0.step)⟩
   ·rw [if_neg c5] at H
    exact absurd H (by simp)
  ·rw [if_neg c4] at H
   exact absurd H (by simp)
 ·rw [if_neg c3] at H
  have c3b0 : decide (a1 < (a0.size : Int)) = false := decide_eq_false c3
  clear c3
  obtain rfl := Option.some.inj H
  go_enter Tryd.func11, Tryd.ntmps11
  go_wp2
  go_ret
  exact ⟨by first | rfl | (simp; done) | (simp [*]; done), by repeat (first | exact Drawn0.refl _ | apply Drawn0.step)⟩

end Go.Proofs.YtimkhjbnkcgekaaDoor.PC
