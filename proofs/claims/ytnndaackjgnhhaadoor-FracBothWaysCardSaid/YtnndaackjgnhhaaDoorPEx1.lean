/- Printed by a program of this session (wip/tools/prt.py) out of the translation: plain functions, and that the calls come to just them. No conditions beyond those that stand in each theorem. -/
import Derived.Test.YtnndaackjgnhhaaDoorPEx0
namespace Go.Proofs.YtnndaackjgnhhaaDoor.PE
open Go.Proofs.YtnndaackjgnhhaaDoor.Sq Go.RowKit Go.Proofs.YtnndaackjgnhhaaDoorW.PrintWords Go.Proofs.YtnndaackjgnhhaaDoorW.PrintLast Go.Proofs.YtnndaackjgnhhaaDoorW.PrintMore Go.Proofs.YtnndaackjgnhhaaDoor.PB
attribute [local go_sem] max2_int min2_int max_two min_two max_three min_three max_four min_four   -- for this text's walks alone
set_option linter.unusedVariables false
set_option linter.unusedSimpArgs false

/-! ### drachmref02_digits: function 46 -/
def drachmref02_digits.l0 : Nat → Int → ByteArray → Option (ByteArray)
 | 0, _, _ => none
 | k + 1, x0, x3 => if x0 ≥ 10 then ((some (([(wrap64 (48 + (Int.tmod x0 10))) % 256] : List Int) : List Int)).bind fun y101 => (if (strOfNums y101).size + x3.size ≤ 9223372036854775807 then (drachmref02_digits.l0 k (wrap64 (Int.tdiv x0 10)) ((strOfNums y101) ++ x3)) else (none))) else ((some (([(wrap64 (48 + x0)) % 256] : List Int) : List Int)).bind fun y104 => (if (strOfNums y104).size + x3.size ≤ 9223372036854775807 then (some ((strOfNums y104) ++ x3)) else (none)))
def drachmref02_digits.f (k : Nat) (a0 : Int) : Option (ByteArray) := drachmref02_digits.l0 k a0 (⟨#[]⟩ : ByteArray)
theorem drachmref02_digits.mono_l : ∀ k, (∀ y0 y1, LeO (drachmref02_digits.l0 k y0 y1) (drachmref02_digits.l0 (k + 1) y0 y1))
 | 0 => fun _ _ r h => by simp [drachmref02_digits.l0] at h
 | k + 1 => by
  have ih0 := drachmref02_digits.mono_l k
  ·intro y0 y1
   unfold drachmref02_digits.l0
   repeat' first
   | (with_reducible exact ih0 _ _)
   | (with_reducible exact LeO.refl _)
   | (with_reducible exact LeO.none _)
   | (with_reducible refine LeO.ite ?_ ?_)
   | (with_reducible refine LeO.bind ?_ (fun _ => ?_))
   | exact ih0 _ _
   | exact LeO.none _
   | refine LeO.ite ?_ ?_
   | refine LeO.bind ?_ (fun _ => ?_)
theorem drachmref02_digits.mono : ∀ a0 k, LeO (drachmref02_digits.f k a0) (drachmref02_digits.f (k + 1) a0) := by
 intro a0 k
 have ih0 := drachmref02_digits.mono_l k
 unfold drachmref02_digits.f
 repeat' first
   | (with_reducible exact ih0 _ _)
   | (with_reducible exact LeO.refl _)
   | (with_reducible exact LeO.none _)
   | (with_reducible refine LeO.ite ?_ ?_)
   | (with_reducible refine LeO.bind ?_ (fun _ => ?_))
   | exact ih0 _ _
   | exact LeO.none _
   | refine LeO.ite ?_ ?_
   | refine LeO.bind ?_ (fun _ => ?_)
set_option maxHeartbeats 8000000 in
set_option maxRecDepth 100000 in
theorem drachmref02_digits.calls (k : Nat) (a0 : Int) (r : ByteArray) (w : World) (h : drachmref02_digits.f k a0 = some r) :
  Calls Tryd.prog 46 #[.int .i64 a0] w fun e w' => e = .returned (.string r) ∧ Below w.heap.size w w' := by
 have HB := Aside0.mk (Below.refl w.heap.size w)
 have H : (drachmref02_digits.l0 k a0 (⟨#[]⟩ : ByteArray)) = some r := h
 clear h
 have H' := Aside0.mk H
 clear H
 go_enter Tryd.func46, Tryd.ntmps46
 go_wp2
 go_loopg [0, 3] k (fun kq v0 v3 w' => ∃ (x0_1 : Int) (x3_1 : ByteArray), v0 = .int .i64 x0_1 ∧ v3 = .string x3_1 ∧ Aside0 (drachmref02_digits.l0 kq x0_1 x3_1 = some r) ∧ Aside0 (kq ≤ k) ∧ Aside0 (Below w.heap.size w w'))
 case atStart => exact ⟨(a0), ((⟨#[]⟩ : ByteArray)), (by first | rfl | (simp; done) | (simp [*]; done)), (by first | rfl | (simp; done) | (simp [*]; done)), H', ⟨Nat.le_refl _⟩, ⟨bl HB.out⟩⟩
 case round =>
  clear H'
  obtain ⟨x0_1, x3_1, rfl, rfl, HA, HK1, HB⟩ := hrel
  cases gk with
  | zero => exact absurd HA.out (by simp [drachmref02_digits.l0])
  | succ k1 =>
   have H := HA.out
   clear HA
   simp only [drachmref02_digits.l0] at H
   by_cases c2 : x0_1 ≥ 10
   ·rw [if_pos c2] at H
    have c2b0 : decide (10 ≤ x0_1) = true := decide_eq_true c2
    clear c2
    obtain ⟨y101, hy101⟩ : ∃ y_ : List Int, y_ = (([(wrap64 (48 + (Int.tmod x0_1 10))) % 256] : List Int)) := ⟨_, rfl⟩
    replace H : (if (strOfNums y101).size + x3_1.size ≤ 9223372036854775807 then (drachmref02_digits.l0 k1 (wrap64 (Int.tdiv x0_1 10)) ((strOfNums y101) ++ x3_1)) else (none)) = some r := by first | (rw [hy101]; with_reducible exact H) | (have H2_ := (Option.bind_some _ _).symm.trans H; rw [hy101]; with_reducible exact H2_) | (have H2_ := (Option.bind_some _ _).symm.trans H; with_reducible exact H2_) | with_reducible exact H | (rw [hy101]; exact H) | exact H
    have Ny101 := Aside0.mk hy101
    clear hy101
    by_cases c3 : (strOfNums y101).size + x3_1.size ≤ 9223372036854775807
    ·rw [if_pos c3] at H
     have c3b0 := eq_true c3
     have c3b1 : decide ((strOfNums y101).size + x3_1.size ≤ 9223372036854775807) = true := decide_eq_true c3
     try have c3b2 : (9223372036854775807 < (strOfNums y101).size + x3_1.size) = False := eq_false (Nat.not_lt.2 c3)
     have H' := Aside0.mk H
     clear H
     go_wp2_with (first | ((with_reducible refine gate_dst (N := 10) rfl ?_); refine Kd.R_lit (Kd.int .u8) _ 5 ?hg (N := 10) ?hd (xs := ([(wrap64 (48 + (Int.tmod x0_1 10))) % 256] : List Int)) (inner := [.int .u8 ((wrap64 (48 + (Int.tmod x0_1 10))) % 256)]) (ok := fun _ => True) (okp := fun _ => True) ?hr ?hp (fun _ hk => hk) trivial (Below.refl _ _) (Nat.le_refl _) (by simp) ?_; (case hd => rfl); (case hg => rfl); (case hr => first | (go_simp; done) | (go_simp; rfl)); (case hp => exact (Reps.one (show Kd.M (Kd.int .u8) _ _ _ ((wrap64 (48 + (Int.tmod x0_1 10))) % 256) [.int .u8 ((wrap64 (48 + (Int.tmod x0_1 10))) % 256)] from rfl) (Reps.none _ _))); intro v102 w4 ho5 hb hg_ hnew_; clear hg_ hnew_; (first | rw [← Ny101.out] at ho5 | (simp only [Int.reduceToNat] at ho5; rw [← Ny101.out] at ho5)); have HO103 := Aside0.mk (Kd.R_lower ho5 (below_size (bl HB.out))); replace HB := Aside0.mk (below_step (bl HB.out) hb); clear hb ho5; have hcv6 := own_string (P := Tryd.prog) Tryd.underlying82 Tryd.underlying5 Tryd.underlying9 (Kd.own_of_R HO103.out)))
     go_roundg k1
     case measure => have := HK1.out; omega
     case rel => exact ⟨(wrap64 (Int.tdiv x0_1 10)), ((strOfNums y101) ++ x3_1), (by first | rfl | (simp; done) | (simp [*]; done)), (by first | rfl | (simp; done) | (simp [*]; done)), H', ⟨by have := HK1.out; omega⟩, ⟨bl HB.out⟩⟩
    ·rw [if_neg c3] at H
     exact absurd H (by simp)
   ·rw [if_neg c2] at H
    have c2b0 : decide (10 ≤ x0_1) = false := decide_eq_false c2
    clear c2
    obtain ⟨y104, hy104⟩ : ∃ y_ : List Int, y_ = (([(wrap64 (48 + x0_1)) % 256] : List Int)) := ⟨_, rfl⟩
    replace H : (if (strOfNums y104).size + x3_1.size ≤ 9223372036854775807 then (some ((strOfNums y104) ++ x3_1)) else (none)) = some r := by first | (rw [hy104]; with_reducible exact H) | (have H2_ := (Option.bind_some _ _).symm.trans H; rw [hy104]; with_reducible exact H2_) | (have H2_ := (Option.bind_some _ _).symm.trans H; with_reducible exact H2_) | with_reducible exact H | (rw [hy104]; exact H) | exact H
    have Ny104 := Aside0.mk hy104
    clear hy104
    by_cases c7 : (strOfNums y104).size + x3_1.size ≤ 9223372036854775807
    ·rw [if_pos c7] at H
     have c7b0 := eq_true c7
     have c7b1 : decide ((strOfNums y104).size + x3_1.size ≤ 9223372036854775807) = true := decide_eq_true c7
     try have c7b2 : (9223372036854775807 < (strOfNums y104).size + x3_1.size) = False := eq_false (Nat.not_lt.2 c7)
     obtain rfl := Option.some.inj H
     go_wp2_with (first | ((with_reducible refine gate_dst (N := 19) rfl ?_); refine Kd.R_lit (Kd.int .u8) _ 5 ?hg (N := 19) ?hd (xs := ([(wrap64 (48 + x0_1)) % 256] : List Int)) (inner := [.int .u8 ((wrap64 (48 + x0_1)) % 256)]) (ok := fun _ => True) (okp := fun _ => True) ?hr ?hp (fun _ hk => hk) trivial (Below.refl _ _) (Nat.le_refl _) (by simp) ?_; (case hd => rfl); (case hg => rfl); (case hr => first | (go_simp; done) | (go_simp; rfl)); (case hp => exact (Reps.one (show Kd.M (Kd.int .u8) _ _ _ ((wrap64 (48 + x0_1)) % 256) [.int .u8 ((wrap64 (48 + x0_1)) % 256)] from rfl) (Reps.none _ _))); intro v105 w8 ho9 hb hg_ hnew_; clear hg_ hnew_; (first | rw [← Ny104.out] at ho9 | (simp only [Int.reduceToNat] at ho9; rw [← Ny104.out] at ho9)); have HO106 := Aside0.mk (Kd.R_lower ho9 (below_size (bl HB.out))); replace HB := Aside0.mk (below_step (bl HB.out) hb); clear hb ho9; have hcv10 := own_string (P := Tryd.prog) Tryd.underlying82 Tryd.underlying5 Tryd.underlying9 (Kd.own_of_R HO106.out)))
     go_ret
     exact ⟨by first | rfl | (simp [errW_none, errW_some] <;> rfl) | (simp [*, errW_none, errW_some] <;> rfl), bl HB.out⟩
    ·rw [if_neg c7] at H
     exact absurd H (by simp)

/-! ### drachmref02_signed: function 45 -/
def drachmref02_signed.f (k : Nat) (a0 : Int) : Option (ByteArray) := if a0 < 0 then ((drachmref02_digits.f k (wrap64 (-a0))).bind fun t107 => (if 1 + t107.size ≤ 9223372036854775807 then (some ((⟨#[45]⟩ : ByteArray) ++ t107)) else (none))) else ((drachmref02_digits.f k a0).bind fun t108 => (some t108))
theorem drachmref02_signed.mono : ∀ a0 k, LeO (drachmref02_signed.f k a0) (drachmref02_signed.f (k + 1) a0) := by
 intro a0 k
 unfold drachmref02_signed.f
 repeat' first
   | (with_reducible exact drachmref02_digits.mono _ _)
   | (with_reducible exact LeO.refl _)
   | (with_reducible exact LeO.none _)
   | (with_reducible refine LeO.ite ?_ ?_)
   | (with_reducible refine LeO.bind ?_ (fun _ => ?_))
   | exact drachmref02_digits.mono _ _
   | exact LeO.none _
   | refine LeO.ite ?_ ?_
   | refine LeO.bind ?_ (fun _ => ?_)
set_option maxHeartbeats 8000000 in
set_option maxRecDepth 100000 in
theorem drachmref02_signed.calls (k : Nat) (a0 : Int) (r : ByteArray) (w : World) (h : drachmref02_signed.f k a0 = some r) :
  Calls Tryd.prog 45 #[.int .i64 a0] w fun e w' => e = .returned (.string r) ∧ Below w.heap.size w w' := by
 have HB := Aside0.mk (Below.refl w.heap.size w)
 have H : (if a0 < 0 then ((drachmref02_digits.f k (wrap64 (-a0))).bind fun t107 => (if 1 + t107.size ≤ 9223372036854775807 then (some ((⟨#[45]⟩ : ByteArray) ++ t107)) else (none))) else ((drachmref02_digits.f k a0).bind fun t108 => (some t108))) = some r := h
 clear h
 by_cases c2 : a0 < 0
 ·rw [if_pos c2] at H
  have c2b0 : decide (a0 < 0) = true := decide_eq_true c2
  clear c2
  replace H := Option.bind_eq_some_iff.mp H
  obtain ⟨t107, A30, H⟩ := H
  replace H : (if 1 + t107.size ≤ 9223372036854775807 then (some ((⟨#[45]⟩ : ByteArray) ++ t107)) else (none)) = some r := H
  have A3 := Aside0.mk A30
  clear A30
  by_cases c4 : 1 + t107.size ≤ 9223372036854775807
  ·rw [if_pos c4] at H
   have c4b0 := eq_true c4
   have c4b1 : decide (1 + t107.size ≤ 9223372036854775807) = true := decide_eq_true c4
   try have c4b2 : (9223372036854775807 < 1 + t107.size) = False := eq_false (Nat.not_lt.2 c4)
   obtain rfl := Option.some.inj H
   go_enter Tryd.func45, Tryd.ntmps45
   go_wp2_with (first | ((with_reducible refine gate_callee (f := 46) rfl ?_); refine goesL_ (some 7) rfl rfl Tryd.func46 (by kernel_rfl) rfl #[.int .i64 (wrap64 (-a0))] rfl (by (try simp only [List.map_toArray, List.map_cons, List.map_nil]); first | done | rfl | (simp only [List.length_drop, List.length_take]; rfl)) ?_; (with_reducible refine (drachmref02_digits.calls k (wrap64 (-a0)) t107 _ A3.out).mono ?_); rintro e w5 ⟨rfl, hb⟩; refine ⟨_, rfl, ?_⟩; replace HB := Aside0.mk (below_step (bl HB.out) hb); (try clear hb); (try clear hb2); (try clear hk); (try clear hi)))
   go_ret
   exact ⟨by first | rfl | (simp [errW_none, errW_some] <;> rfl) | (simp [*, errW_none, errW_some] <;> rfl), bl HB.out⟩
  ·rw [if_neg c4] at H
   exact absurd H (by simp)
 ·rw [if_neg c2] at H
  have c2b0 : decide (a0 < 0) = false := decide_eq_false c2
  clear c2
  replace H := Option.bind_eq_some_iff.mp H
  obtain ⟨t108, A60, H⟩ := H
  replace H : (some t108) = some r := H
  have A6 := Aside0.mk A60
  clear A60
  obtain rfl := Option.some.inj H
  go_enter Tryd.func45, Tryd.ntmps45
  go_wp2_with (first | ((with_reducible refine gate_callee (f := 46) rfl ?_); refine goesL_ (some 10) rfl rfl Tryd.func46 (by kernel_rfl) rfl #[.int .i64 a0] rfl (by (try simp only [List.map_toArray, List.map_cons, List.map_nil]); first | done | rfl | (simp only [List.length_drop, List.length_take]; rfl)) ?_; (with_reducible refine (drachmref02_digits.calls k a0 t108 _ A6.out).mono ?_); rintro e w7 ⟨rfl, hb⟩; refine ⟨_, rfl, ?_⟩; replace HB := Aside0.mk (below_step (bl HB.out) hb); (try clear hb); (try clear hb2); (try clear hk); (try clear hi)))
  go_ret
  exact ⟨by first | rfl | (simp [errW_none, errW_some] <;> rfl) | (simp [*, errW_none, errW_some] <;> rfl), bl HB.out⟩

/-! ### drachmref02_Text: function 23 -/
def drachmref02_Text.f (k : Nat) (a0_0 : Int) (a0_1 : Int) (a0_2 : Int) : Option (ByteArray) := (drachmref02_Right.f k a0_0 a0_1 a0_2).bind fun t110 => (if t110 = true then ((drachmref02_signed.f k a0_0).bind fun t111 => (if a0_1 = 1 then (if a0_2 = 0 then (some t111) else (if t111.size + 1 ≤ 9223372036854775807 then ((drachmref02_signed.f k a0_2).bind fun t112 => (if (t111 ++ (⟨#[101]⟩ : ByteArray)).size + t112.size ≤ 9223372036854775807 then (some ((t111 ++ (⟨#[101]⟩ : ByteArray)) ++ t112)) else (none))) else (none))) else (if t111.size + 1 ≤ 9223372036854775807 then ((drachmref02_digits.f k a0_1).bind fun t113 => (if (t111 ++ (⟨#[47]⟩ : ByteArray)).size + t113.size ≤ 9223372036854775807 then (if a0_2 = 0 then (some ((t111 ++ (⟨#[47]⟩ : ByteArray)) ++ t113)) else (if ((t111 ++ (⟨#[47]⟩ : ByteArray)) ++ t113).size + 1 ≤ 9223372036854775807 then ((drachmref02_signed.f k a0_2).bind fun t114 => (if (((t111 ++ (⟨#[47]⟩ : ByteArray)) ++ t113) ++ (⟨#[101]⟩ : ByteArray)).size + t114.size ≤ 9223372036854775807 then (some ((((t111 ++ (⟨#[47]⟩ : ByteArray)) ++ t113) ++ (⟨#[101]⟩ : ByteArray)) ++ t114)) else (none))) else (none))) else (none))) else (none)))) else (some (⟨#[]⟩ : ByteArray)))
theorem drachmref02_Text.mono : ∀ a0 a1 a2 k, LeO (drachmref02_Text.f k a0 a1 a2) (drachmref02_Text.f (k + 1) a0 a1 a2) := by
 intro a0 a1 a2 k
 unfold drachmref02_Text.f
 repeat' first
   | (with_reducible exact drachmref02_Right.mono _ _ _ _)
   | (with_reducible exact drachmref02_digits.mono _ _)
   | (with_reducible exact drachmref02_signed.mono _ _)
   | (with_reducible exact LeO.refl _)
   | (with_reducible exact LeO.none _)
   | (with_reducible refine LeO.ite ?_ ?_)
   | (with_reducible refine LeO.bind ?_ (fun _ => ?_))
   | exact drachmref02_Right.mono _ _ _ _
   | exact drachmref02_digits.mono _ _
   | exact drachmref02_signed.mono _ _
   | exact LeO.none _
   | refine LeO.ite ?_ ?_
   | refine LeO.bind ?_ (fun _ => ?_)
set_option maxHeartbeats 8000000 in
set_option maxRecDepth 100000 in
theorem drachmref02_Text.calls (k : Nat) (a0_0 : Int) (a0_1 : Int) (a0_2 : Int) (r : ByteArray) (w : World) (h : drachmref02_Text.f k a0_0 a0_1 a0_2 = some r) :
  Calls Tryd.prog 23 #[.agg #[.int .i64 a0_0, .int .i64 a0_1, .int .i64 a0_2]] w fun e w' => e = .returned (.string r) ∧ Below w.heap.size w w' := by
 have hu24 := Tryd.underlying24
 have HB := Aside0.mk (Below.refl w.heap.size w)
 have H : ((drachmref02_Right.f k a0_0 a0_1 a0_2).bind fun t110 => (if t110 = true then ((drachmref02_signed.f k a0_0).bind fun t111 => (if a0_1 = 1 then (if a0_2 = 0 then (some t111) else (if t111.size + 1 ≤ 9223372036854775807 then ((drachmref02_signed.f k a0_2).bind fun t112 => (if (t111 ++ (⟨#[101]⟩ : ByteArray)).size + t112.size ≤ 9223372036854775807 then (some ((t111 ++ (⟨#[101]⟩ : ByteArray)) ++ t112)) else (none))) else (none))) else (if t111.size + 1 ≤ 9223372036854775807 then ((drachmref02_digits.f k a0_1).bind fun t113 => (if (t111 ++ (⟨#[47]⟩ : ByteArray)).size + t113.size ≤ 9223372036854775807 then (if a0_2 = 0 then (some ((t111 ++ (⟨#[47]⟩ : ByteArray)) ++ t113)) else (if ((t111 ++ (⟨#[47]⟩ : ByteArray)) ++ t113).size + 1 ≤ 9223372036854775807 then ((drachmref02_signed.f k a0_2).bind fun t114 => (if (((t111 ++ (⟨#[47]⟩ : ByteArray)) ++ t113) ++ (⟨#[101]⟩ : ByteArray)).size + t114.size ≤ 9223372036854775807 then (some ((((t111 ++ (⟨#[47]⟩ : ByteArray)) ++ t113) ++ (⟨#[101]⟩ : ByteArray)) ++ t114)) else (none))) else (none))) else (none))) else (none)))) else (some (⟨#[]⟩ : ByteArray)))) = some r := h
 clear h
 replace H := Option.bind_eq_some_iff.mp H
 obtain ⟨t110, A20, H⟩ := H
 replace H : (if t110 = true then ((drachmref02_signed.f k a0_0).bind fun t111 => (if a0_1 = 1 then (if a0_2 = 0 then (some t111) else (if t111.size + 1 ≤ 9223372036854775807 then ((drachmref02_signed.f k a0_2).bind fun t112 => (if (t111 ++ (⟨#[101]⟩ : ByteArray)).size + t112.size ≤ 9223372036854775807 then (some ((t111 ++ (⟨#[101]⟩ : ByteArray)) ++ t112)) else (none))) else (none))) else (if t111.size + 1 ≤ 9223372036854775807 then ((drachmref02_digits.f k a0_1).bind fun t113 => (if (t111 ++ (⟨#[47]⟩ : ByteArray)).size + t113.size ≤ 9223372036854775807 then (if a0_2 = 0 then (some ((t111 ++ (⟨#[47]⟩ : ByteArray)) ++ t113)) else (if ((t111 ++ (⟨#[47]⟩ : ByteArray)) ++ t113).size + 1 ≤ 9223372036854775807 then ((drachmref02_signed.f k a0_2).bind fun t114 => (if (((t111 ++ (⟨#[47]⟩ : ByteArray)) ++ t113) ++ (⟨#[101]⟩ : ByteArray)).size + t114.size ≤ 9223372036854775807 then (some ((((t111 ++ (⟨#[47]⟩ : ByteArray)) ++ t113) ++ (⟨#[101]⟩ : ByteArray)) ++ t114)) else (none))) else (none))) else (none))) else (none)))) else (some (⟨#[]⟩ : ByteArray))) = some r := H
 have A2 := Aside0.mk A20
 clear A20
 by_cases c3 : t110 = true
 ·subst c3
  have H1 : ((drachmref02_signed.f k a0_0).bind fun t111 => (if a0_1 = 1 then (if a0_2 = 0 then (some t111) else (if t111.size + 1 ≤ 9223372036854775807 then ((drachmref02_signed.f k a0_2).bind fun t112 => (if (t111 ++ (⟨#[101]⟩ : ByteArray)).size + t112.size ≤ 9223372036854775807 then (some ((t111 ++ (⟨#[101]⟩ : ByteArray)) ++ t112)) else (none))) else (none))) else (if t111.size + 1 ≤ 9223372036854775807 then ((drachmref02_digits.f k a0_1).bind fun t113 => (if (t111 ++ (⟨#[47]⟩ : ByteArray)).size + t113.size ≤ 9223372036854775807 then (if a0_2 = 0 then (some ((t111 ++ (⟨#[47]⟩ : ByteArray)) ++ t113)) else (if ((t111 ++ (⟨#[47]⟩ : ByteArray)) ++ t113).size + 1 ≤ 9223372036854775807 then ((drachmref02_signed.f k a0_2).bind fun t114 => (if (((t111 ++ (⟨#[47]⟩ : ByteArray)) ++ t113) ++ (⟨#[101]⟩ : ByteArray)).size + t114.size ≤ 9223372036854775807 then (some ((((t111 ++ (⟨#[47]⟩ : ByteArray)) ++ t113) ++ (⟨#[101]⟩ : ByteArray)) ++ t114)) else (none))) else (none))) else (none))) else (none)))) = some r := by rw [if_pos rfl] at H; exact H
  clear H
  have H := H1
  clear H1
  replace H := Option.bind_eq_some_iff.mp H
  obtain ⟨t111, A40, H⟩ := H
  replace H : (if a0_1 = 1 then (if a0_2 = 0 then (some t111) else (if t111.size + 1 ≤ 9223372036854775807 then ((drachmref02_signed.f k a0_2).bind fun t112 => (if (t111 ++ (⟨#[101]⟩ : ByteArray)).size + t112.size ≤ 9223372036854775807 then (some ((t111 ++ (⟨#[101]⟩ : ByteArray)) ++ t112)) else (none))) else (none))) else (if t111.size + 1 ≤ 9223372036854775807 then ((drachmref02_digits.f k a0_1).bind fun t113 => (if (t111 ++ (⟨#[47]⟩ : ByteArray)).size + t113.size ≤ 9223372036854775807 then (if a0_2 = 0 then (some ((t111 ++ (⟨#[47]⟩ : ByteArray)) ++ t113)) else (if ((t111 ++ (⟨#[47]⟩ : ByteArray)) ++ t113).size + 1 ≤ 9223372036854775807 then ((drachmref02_signed.f k a0_2).bind fun t114 => (if (((t111 ++ (⟨#[47]⟩ : ByteArray)) ++ t113) ++ (⟨#[101]⟩ : ByteArray)).size + t114.size ≤ 9223372036854775807 then (some ((((t111 ++ (⟨#[47]⟩ : ByteArray)) ++ t113) ++ (⟨#[101]⟩ : ByteArray)) ++ t114)) else (none))) else (none))) else (none))) else (none))) = some r := H
  have A4 := Aside0.mk A40
  clear A40
  by_cases c5 : a0_1 = 1
  ·rw [if_pos c5] at H
   have c5b0 : (a0_1 == 1) = true := beq_iff_eq.mpr c5
   have c5b1 : (a0_1 != 1) = false := bne_eq_false_iff_eq.mpr c5
   clear c5
   by_cases c6 : a0_2 = 0
   ·rw [if_pos c6] at H
    have c6b0 : (a0_2 == 0) = true := beq_iff_eq.mpr c6
    have c6b1 : (a0_2 != 0) = false := bne_eq_false_iff_eq.mpr c6
    clear c6
    obtain rfl := Option.some.inj H
    go_enter Tryd.func23, Tryd.ntmps23
    go_wp2_with (first | ((with_reducible refine gate_dst (N := 1) rfl ?_); refine box_event ?hg (N := 1) ?hd (cs := #[.int .i64 a0_0, .int .i64 a0_1, .int .i64 a0_2]) (t := 24) ?hr ?_; (case hd => rfl); (case hg => rfl); (case hr => first | (go_simp; done) | (go_simp; rfl)); intro gb109 hg w7 hbox hb; have n0_ := Aside0.mk (below_step (bl HB.out) hb); have n1_ := Aside0.mk (hbox); have n2_ := Aside0.mk ((by rw [hg]; exact (below_size (bl HB.out)) : w.heap.size ≤ gb109)); have n3_ := Aside0.mk ((by rw [hg]; exact (below_size (bl HB.out)) : w.heap.size ≤ gb109)); clear HB; have HB := n0_; have BK109 := n1_; have GW109 := n2_; have GE109 := n3_; clear n0_ n1_ n2_ n3_; clear hb hbox hg; obtain ⟨hcz8_0, hcz8_1, hcz8_2⟩ := hc3 BK109.out; obtain ⟨hfz8_0, hfz8_1, hfz8_2⟩ := hf3 BK109.out) | ((with_reducible refine gate_callee (f := 14) rfl ?_); refine goesL_ (some 6) rfl rfl Tryd.func14 (by kernel_rfl) rfl #[.agg #[.int .i64 a0_0, .int .i64 a0_1, .int .i64 a0_2]] rfl (by (try simp only [List.map_toArray, List.map_cons, List.map_nil]); first | done | rfl | (simp only [List.length_drop, List.length_take]; rfl)) ?_; (with_reducible refine (drachmref02_Right.calls k a0_0 a0_1 a0_2 true _ A2.out).mono ?_); rintro e w9 ⟨rfl, hb⟩; refine ⟨_, rfl, ?_⟩; replace BK109 := Aside0.mk (blk_below (kp BK109.out) hb); replace HB := Aside0.mk (below_step (bl HB.out) hb); (try clear hb); (try clear hb2); (try clear hk); (try clear hi); obtain ⟨hcz10_0, hcz10_1, hcz10_2⟩ := hc3 BK109.out; obtain ⟨hfz10_0, hfz10_1, hfz10_2⟩ := hf3 BK109.out) | ((with_reducible refine gate_callee (f := 45) rfl ?_); refine goesL_ (some 11) rfl rfl Tryd.func45 (by kernel_rfl) rfl #[.int .i64 a0_0] rfl (by (try simp only [List.map_toArray, List.map_cons, List.map_nil]); first | done | rfl | (simp only [List.length_drop, List.length_take]; rfl)) ?_; (with_reducible refine (drachmref02_signed.calls k a0_0 t111 _ A4.out).mono ?_); rintro e w11 ⟨rfl, hb⟩; refine ⟨_, rfl, ?_⟩; replace BK109 := Aside0.mk (blk_below (kp BK109.out) hb); replace HB := Aside0.mk (below_step (bl HB.out) hb); (try clear hb); (try clear hb2); (try clear hk); (try clear hi); obtain ⟨hcz12_0, hcz12_1, hcz12_2⟩ := hc3 BK109.out; obtain ⟨hfz12_0, hfz12_1, hfz12_2⟩ := hf3 BK109.out))
    go_ret
    exact ⟨by first | rfl | (simp [errW_none, errW_some] <;> rfl) | (simp [*, errW_none, errW_some] <;> rfl), bl HB.out⟩
   ·rw [if_neg c6] at H
    have c6b0 : (a0_2 == 0) = false := beq_eq_false_iff_ne.mpr c6
    have c6b1 : (a0_2 != 0) = true := bne_iff_ne.mpr c6
    by_cases c13 : t111.size + 1 ≤ 9223372036854775807
    ·rw [if_pos c13] at H
     have c13b0 := eq_true c13
     have c13b1 : decide (t111.size + 1 ≤ 9223372036854775807) = true := decide_eq_true c13
     try have c13b2 : (9223372036854775807 < t111.size + 1) = False := eq_false (Nat.not_lt.2 c13)
     replace H := Option.bind_eq_some_iff.mp H
     obtain ⟨t112, A140, H⟩ := H
     replace H : (if (t111 ++ (⟨#[101]⟩ : ByteArray)).size + t112.size ≤ 9223372036854775807 then (some ((t111 ++ (⟨#[101]⟩ : ByteArray)) ++ t112)) else (none)) = some r := H
     have A14 := Aside0.mk A140
     clear A140
     by_cases c15 : (t111 ++ (⟨#[101]⟩ : ByteArray)).size + t112.size ≤ 9223372036854775807
     ·rw [if_pos c15] at H
      have c15b0 := eq_true c15
      have c15b1 : decide ((t111 ++ (⟨#[101]⟩ : ByteArray)).size + t112.size ≤ 9223372036854775807) = true := decide_eq_true c15
      try have c15b2 : (9223372036854775807 < (t111 ++ (⟨#[101]⟩ : ByteArray)).size + t112.size) = False := eq_false (Nat.not_lt.2 c15)
      (try have c15b3 : (9223372036854775807 < t111.size + 1 + t112.size) = False := eq_false (by have h_ := c15; simp only [ByteArray.size_append] at h_; have e0_ : (⟨#[101]⟩ : ByteArray).size = 1 := rfl; omega))
      obtain rfl := Option.some.inj H
      go_enter Tryd.func23, Tryd.ntmps23
      go_wp2_with (first | ((with_reducible refine gate_dst (N := 1) rfl ?_); refine box_event ?hg (N := 1) ?hd (cs := #[.int .i64 a0_0, .int .i64 a0_1, .int .i64 a0_2]) (t := 24) ?hr ?_; (case hd => rfl); (case hg => rfl); (case hr => first | (go_simp; done) | (go_simp; rfl)); intro gb109 hg w16 hbox hb; have n0_ := Aside0.mk (below_step (bl HB.out) hb); have n1_ := Aside0.mk (hbox); have n2_ := Aside0.mk ((by rw [hg]; exact (below_size (bl HB.out)) : w.heap.size ≤ gb109)); have n3_ := Aside0.mk ((by rw [hg]; exact (below_size (bl HB.out)) : w.heap.size ≤ gb109)); clear HB; have HB := n0_; have BK109 := n1_; have GW109 := n2_; have GE109 := n3_; clear n0_ n1_ n2_ n3_; clear hb hbox hg; obtain ⟨hcz17_0, hcz17_1, hcz17_2⟩ := hc3 BK109.out; obtain ⟨hfz17_0, hfz17_1, hfz17_2⟩ := hf3 BK109.out) | ((with_reducible refine gate_callee (f := 14) rfl ?_); refine goesL_ (some 6) rfl rfl Tryd.func14 (by kernel_rfl) rfl #[.agg #[.int .i64 a0_0, .int .i64 a0_1, .int .i64 a0_2]] rfl (by (try simp only [List.map_toArray, List.map_cons, List.map_nil]); first | done | rfl | (simp only [List.length_drop, List.length_take]; rfl)) ?_; (with_reducible refine (drachmref02_Right.calls k a0_0 a0_1 a0_2 true _ A2.out).mono ?_); rintro e w18 ⟨rfl, hb⟩; refine ⟨_, rfl, ?_⟩; replace BK109 := Aside0.mk (blk_below (kp BK109.out) hb); replace HB := Aside0.mk (below_step (bl HB.out) hb); (try clear hb); (try clear hb2); (try clear hk); (try clear hi); obtain ⟨hcz19_0, hcz19_1, hcz19_2⟩ := hc3 BK109.out; obtain ⟨hfz19_0, hfz19_1, hfz19_2⟩ := hf3 BK109.out) | ((with_reducible refine gate_callee (f := 45) rfl ?_); refine goesL_ (some 11) rfl rfl Tryd.func45 (by kernel_rfl) rfl #[.int .i64 a0_0] rfl (by (try simp only [List.map_toArray, List.map_cons, List.map_nil]); first | done | rfl | (simp only [List.length_drop, List.length_take]; rfl)) ?_; (with_reducible refine (drachmref02_signed.calls k a0_0 t111 _ A4.out).mono ?_); rintro e w20 ⟨rfl, hb⟩; refine ⟨_, rfl, ?_⟩; replace BK109 := Aside0.mk (blk_below (kp BK109.out) hb); replace HB := Aside0.mk (below_step (bl HB.out) hb); (try clear hb); (try clear hb2); (try clear hk); (try clear hi); obtain ⟨hcz21_0, hcz21_1, hcz21_2⟩ := hc3 BK109.out; obtain ⟨hfz21_0, hfz21_1, hfz21_2⟩ := hf3 BK109.out) | ((with_reducible refine gate_callee (f := 45) rfl ?_); refine goesL_ (some 28) rfl rfl Tryd.func45 (by kernel_rfl) rfl #[.int .i64 a0_2] rfl (by (try simp only [List.map_toArray, List.map_cons, List.map_nil]); first | done | rfl | (simp only [List.length_drop, List.length_take]; rfl)) ?_; (with_reducible refine (drachmref02_signed.calls k a0_2 t112 _ A14.out).mono ?_); rintro e w22 ⟨rfl, hb⟩; refine ⟨_, rfl, ?_⟩; replace BK109 := Aside0.mk (blk_below (kp BK109.out) hb); replace HB := Aside0.mk (below_step (bl HB.out) hb); (try clear hb); (try clear hb2); (try clear hk); (try clear hi)))
      go_ret
      exact ⟨by first | rfl | (simp [errW_none, errW_some] <;> rfl) | (simp [*, errW_none, errW_some] <;> rfl), bl HB.out⟩
     ·rw [if_neg c15] at H
      exact absurd H (by simp)
    ·rw [if_neg c13] at H
     exact absurd H (by simp)
  ·rw [if_neg c5] at H
   have c5b0 : (a0_1 == 1) = false := beq_eq_false_iff_ne.mpr c5
   have c5b1 : (a0_1 != 1) = true := bne_iff_ne.mpr c5
   by_cases c23 : t111.size + 1 ≤ 9223372036854775807
   ·rw [if_pos c23] at H
    have c23b0 := eq_true c23
    have c23b1 : decide (t111.size + 1 ≤ 9223372036854775807) = true := decide_eq_true c23
    try have c23b2 : (9223372036854775807 < t111.size + 1) = False := eq_false (Nat.not_lt.2 c23)
    replace H := Option.bind_eq_some_iff.mp H
    obtain ⟨t113, A240, H⟩ := H
    replace H : (if (t111 ++ (⟨#[47]⟩ : ByteArray)).size + t113.size ≤ 9223372036854775807 then (if a0_2 = 0 then (some ((t111 ++ (⟨#[47]⟩ : ByteArray)) ++ t113)) else (if ((t111 ++ (⟨#[47]⟩ : ByteArray)) ++ t113).size + 1 ≤ 9223372036854775807 then ((drachmref02_signed.f k a0_2).bind fun t114 => (if (((t111 ++ (⟨#[47]⟩ : ByteArray)) ++ t113) ++ (⟨#[101]⟩ : ByteArray)).size + t114.size ≤ 9223372036854775807 then (some ((((t111 ++ (⟨#[47]⟩ : ByteArray)) ++ t113) ++ (⟨#[101]⟩ : ByteArray)) ++ t114)) else (none))) else (none))) else (none)) = some r := H
    have A24 := Aside0.mk A240
    clear A240
    by_cases c25 : (t111 ++ (⟨#[47]⟩ : ByteArray)).size + t113.size ≤ 9223372036854775807
    ·rw [if_pos c25] at H
     have c25b0 := eq_true c25
     have c25b1 : decide ((t111 ++ (⟨#[47]⟩ : ByteArray)).size + t113.size ≤ 9223372036854775807) = true := decide_eq_true c25
     try have c25b2 : (9223372036854775807 < (t111 ++ (⟨#[47]⟩ : ByteArray)).size + t113.size) = False := eq_false (Nat.not_lt.2 c25)
     (try have c25b3 : (9223372036854775807 < t111.size + 1 + t113.size) = False := eq_false (by have h_ := c25; simp only [ByteArray.size_append] at h_; have e0_ : (⟨#[47]⟩ : ByteArray).size = 1 := rfl; omega))
     by_cases c26 : a0_2 = 0
     ·rw [if_pos c26] at H
      have c26b0 : (a0_2 == 0) = true := beq_iff_eq.mpr c26
      have c26b1 : (a0_2 != 0) = false := bne_eq_false_iff_eq.mpr c26
      clear c26
      obtain rfl := Option.some.inj H
      go_enter Tryd.func23, Tryd.ntmps23
      go_wp2_with (first | ((with_reducible refine gate_dst (N := 1) rfl ?_); refine box_event ?hg (N := 1) ?hd (cs := #[.int .i64 a0_0, .int .i64 a0_1, .int .i64 a0_2]) (t := 24) ?hr ?_; (case hd => rfl); (case hg => rfl); (case hr => first | (go_simp; done) | (go_simp; rfl)); intro gb109 hg w27 hbox hb; have n0_ := Aside0.mk (below_step (bl HB.out) hb); have n1_ := Aside0.mk (hbox); have n2_ := Aside0.mk ((by rw [hg]; exact (below_size (bl HB.out)) : w.heap.size ≤ gb109)); have n3_ := Aside0.mk ((by rw [hg]; exact (below_size (bl HB.out)) : w.heap.size ≤ gb109)); clear HB; have HB := n0_; have BK109 := n1_; have GW109 := n2_; have GE109 := n3_; clear n0_ n1_ n2_ n3_; clear hb hbox hg; obtain ⟨hcz28_0, hcz28_1, hcz28_2⟩ := hc3 BK109.out; obtain ⟨hfz28_0, hfz28_1, hfz28_2⟩ := hf3 BK109.out) | ((with_reducible refine gate_callee (f := 14) rfl ?_); refine goesL_ (some 6) rfl rfl Tryd.func14 (by kernel_rfl) rfl #[.agg #[.int .i64 a0_0, .int .i64 a0_1, .int .i64 a0_2]] rfl (by (try simp only [List.map_toArray, List.map_cons, List.map_nil]); first | done | rfl | (simp only [List.length_drop, List.length_take]; rfl)) ?_; (with_reducible refine (drachmref02_Right.calls k a0_0 a0_1 a0_2 true _ A2.out).mono ?_); rintro e w29 ⟨rfl, hb⟩; refine ⟨_, rfl, ?_⟩; replace BK109 := Aside0.mk (blk_below (kp BK109.out) hb); replace HB := Aside0.mk (below_step (bl HB.out) hb); (try clear hb); (try clear hb2); (try clear hk); (try clear hi); obtain ⟨hcz30_0, hcz30_1, hcz30_2⟩ := hc3 BK109.out; obtain ⟨hfz30_0, hfz30_1, hfz30_2⟩ := hf3 BK109.out) | ((with_reducible refine gate_callee (f := 45) rfl ?_); refine goesL_ (some 11) rfl rfl Tryd.func45 (by kernel_rfl) rfl #[.int .i64 a0_0] rfl (by (try simp only [List.map_toArray, List.map_cons, List.map_nil]); first | done | rfl | (simp only [List.length_drop, List.length_take]; rfl)) ?_; (with_reducible refine (drachmref02_signed.calls k a0_0 t111 _ A4.out).mono ?_); rintro e w31 ⟨rfl, hb⟩; refine ⟨_, rfl, ?_⟩; replace BK109 := Aside0.mk (blk_below (kp BK109.out) hb); replace HB := Aside0.mk (below_step (bl HB.out) hb); (try clear hb); (try clear hb2); (try clear hk); (try clear hi); obtain ⟨hcz32_0, hcz32_1, hcz32_2⟩ := hc3 BK109.out; obtain ⟨hfz32_0, hfz32_1, hfz32_2⟩ := hf3 BK109.out) | ((with_reducible refine gate_callee (f := 46) rfl ?_); refine goesL_ (some 19) rfl rfl Tryd.func46 (by kernel_rfl) rfl #[.int .i64 a0_1] rfl (by (try simp only [List.map_toArray, List.map_cons, List.map_nil]); first | done | rfl | (simp only [List.length_drop, List.length_take]; rfl)) ?_; (with_reducible refine (drachmref02_digits.calls k a0_1 t113 _ A24.out).mono ?_); rintro e w33 ⟨rfl, hb⟩; refine ⟨_, rfl, ?_⟩; replace BK109 := Aside0.mk (blk_below (kp BK109.out) hb); replace HB := Aside0.mk (below_step (bl HB.out) hb); (try clear hb); (try clear hb2); (try clear hk); (try clear hi); obtain ⟨hcz34_0, hcz34_1, hcz34_2⟩ := hc3 BK109.out; obtain ⟨hfz34_0, hfz34_1, hfz34_2⟩ := hf3 BK109.out))
      go_ret
      exact ⟨by first | rfl | (simp [errW_none, errW_some] <;> rfl) | (simp [*, errW_none, errW_some] <;> rfl), bl HB.out⟩
     ·rw [if_neg c26] at H
      have c26b0 : (a0_2 == 0) = false := beq_eq_false_iff_ne.mpr c26
      have c26b1 : (a0_2 != 0) = true := bne_iff_ne.mpr c26
      by_cases c35 : ((t111 ++ (⟨#[47]⟩ : ByteArray)) ++ t113).size + 1 ≤ 9223372036854775807
      ·rw [if_pos c35] at H
       have c35b0 := eq_true c35
       have c35b1 : decide (((t111 ++ (⟨#[47]⟩ : ByteArray)) ++ t113).size + 1 ≤ 9223372036854775807) = true := decide_eq_true c35
       try have c35b2 : (9223372036854775807 < ((t111 ++ (⟨#[47]⟩ : ByteArray)) ++ t113).size + 1) = False := eq_false (Nat.not_lt.2 c35)
       (try have c35b3 : (9223372036854775807 < t111.size + 1 + t113.size + 1) = False := eq_false (by have h_ := c35; simp only [ByteArray.size_append] at h_; have e0_ : (⟨#[47]⟩ : ByteArray).size = 1 := rfl; omega))
       replace H := Option.bind_eq_some_iff.mp H
       obtain ⟨t114, A360, H⟩ := H
       replace H : (if (((t111 ++ (⟨#[47]⟩ : ByteArray)) ++ t113) ++ (⟨#[101]⟩ : ByteArray)).size + t114.size ≤ 9223372036854775807 then (some ((((t111 ++ (⟨#[47]⟩ : ByteArray)) ++ t113) ++ (⟨#[101]⟩ : ByteArray)) ++ t114)) else (none)) = some r := H
       have A36 := Aside0.mk A360
       clear A360
       by_cases c37 : (((t111 ++ (⟨#[47]⟩ : ByteArray)) ++ t113) ++ (⟨#[101]⟩ : ByteArray)).size + t114.size ≤ 9223372036854775807
       ·rw [if_pos c37] at H
        have c37b0 := eq_true c37
        have c37b1 : decide ((((t111 ++ (⟨#[47]⟩ : ByteArray)) ++ t113) ++ (⟨#[101]⟩ : ByteArray)).size + t114.size ≤ 9223372036854775807) = true := decide_eq_true c37
        try have c37b2 : (9223372036854775807 < (((t111 ++ (⟨#[47]⟩ : ByteArray)) ++ t113) ++ (⟨#[101]⟩ : ByteArray)).size + t114.size) = False := eq_false (Nat.not_lt.2 c37)
        (try have c37b3 : (9223372036854775807 < t111.size + 1 + t113.size + 1 + t114.size) = False := eq_false (by have h_ := c37; simp only [ByteArray.size_append] at h_; have e0_ : (⟨#[101]⟩ : ByteArray).size = 1 := rfl; have e1_ : (⟨#[47]⟩ : ByteArray).size = 1 := rfl; omega))
        obtain rfl := Option.some.inj H
        go_enter Tryd.func23, Tryd.ntmps23
        go_wp2_with (first | ((with_reducible refine gate_dst (N := 1) rfl ?_); refine box_event ?hg (N := 1) ?hd (cs := #[.int .i64 a0_0, .int .i64 a0_1, .int .i64 a0_2]) (t := 24) ?hr ?_; (case hd => rfl); (case hg => rfl); (case hr => first | (go_simp; done) | (go_simp; rfl)); intro gb109 hg w38 hbox hb; have n0_ := Aside0.mk (below_step (bl HB.out) hb); have n1_ := Aside0.mk (hbox); have n2_ := Aside0.mk ((by rw [hg]; exact (below_size (bl HB.out)) : w.heap.size ≤ gb109)); have n3_ := Aside0.mk ((by rw [hg]; exact (below_size (bl HB.out)) : w.heap.size ≤ gb109)); clear HB; have HB := n0_; have BK109 := n1_; have GW109 := n2_; have GE109 := n3_; clear n0_ n1_ n2_ n3_; clear hb hbox hg; obtain ⟨hcz39_0, hcz39_1, hcz39_2⟩ := hc3 BK109.out; obtain ⟨hfz39_0, hfz39_1, hfz39_2⟩ := hf3 BK109.out) | ((with_reducible refine gate_callee (f := 14) rfl ?_); refine goesL_ (some 6) rfl rfl Tryd.func14 (by kernel_rfl) rfl #[.agg #[.int .i64 a0_0, .int .i64 a0_1, .int .i64 a0_2]] rfl (by (try simp only [List.map_toArray, List.map_cons, List.map_nil]); first | done | rfl | (simp only [List.length_drop, List.length_take]; rfl)) ?_; (with_reducible refine (drachmref02_Right.calls k a0_0 a0_1 a0_2 true _ A2.out).mono ?_); rintro e w40 ⟨rfl, hb⟩; refine ⟨_, rfl, ?_⟩; replace BK109 := Aside0.mk (blk_below (kp BK109.out) hb); replace HB := Aside0.mk (below_step (bl HB.out) hb); (try clear hb); (try clear hb2); (try clear hk); (try clear hi); obtain ⟨hcz41_0, hcz41_1, hcz41_2⟩ := hc3 BK109.out; obtain ⟨hfz41_0, hfz41_1, hfz41_2⟩ := hf3 BK109.out) | ((with_reducible refine gate_callee (f := 45) rfl ?_); refine goesL_ (some 11) rfl rfl Tryd.func45 (by kernel_rfl) rfl #[.int .i64 a0_0] rfl (by (try simp only [List.map_toArray, List.map_cons, List.map_nil]); first | done | rfl | (simp only [List.length_drop, List.length_take]; rfl)) ?_; (with_reducible refine (drachmref02_signed.calls k a0_0 t111 _ A4.out).mono ?_); rintro e w42 ⟨rfl, hb⟩; refine ⟨_, rfl, ?_⟩; replace BK109 := Aside0.mk (blk_below (kp BK109.out) hb); replace HB := Aside0.mk (below_step (bl HB.out) hb); (try clear hb); (try clear hb2); (try clear hk); (try clear hi); obtain ⟨hcz43_0, hcz43_1, hcz43_2⟩ := hc3 BK109.out; obtain ⟨hfz43_0, hfz43_1, hfz43_2⟩ := hf3 BK109.out) | ((with_reducible refine gate_callee (f := 46) rfl ?_); refine goesL_ (some 19) rfl rfl Tryd.func46 (by kernel_rfl) rfl #[.int .i64 a0_1] rfl (by (try simp only [List.map_toArray, List.map_cons, List.map_nil]); first | done | rfl | (simp only [List.length_drop, List.length_take]; rfl)) ?_; (with_reducible refine (drachmref02_digits.calls k a0_1 t113 _ A24.out).mono ?_); rintro e w44 ⟨rfl, hb⟩; refine ⟨_, rfl, ?_⟩; replace BK109 := Aside0.mk (blk_below (kp BK109.out) hb); replace HB := Aside0.mk (below_step (bl HB.out) hb); (try clear hb); (try clear hb2); (try clear hk); (try clear hi); obtain ⟨hcz45_0, hcz45_1, hcz45_2⟩ := hc3 BK109.out; obtain ⟨hfz45_0, hfz45_1, hfz45_2⟩ := hf3 BK109.out) | ((with_reducible refine gate_callee (f := 45) rfl ?_); refine goesL_ (some 28) rfl rfl Tryd.func45 (by kernel_rfl) rfl #[.int .i64 a0_2] rfl (by (try simp only [List.map_toArray, List.map_cons, List.map_nil]); first | done | rfl | (simp only [List.length_drop, List.length_take]; rfl)) ?_; (with_reducible refine (drachmref02_signed.calls k a0_2 t114 _ A36.out).mono ?_); rintro e w46 ⟨rfl, hb⟩; refine ⟨_, rfl, ?_⟩; replace BK109 := Aside0.mk (blk_below (kp BK109.out) hb); replace HB := Aside0.mk (below_step (bl HB.out) hb); (try clear hb); (try clear hb2); (try clear hk); (try clear hi)))
        go_ret
        exact ⟨by first | rfl | (simp [errW_none, errW_some] <;> rfl) | (simp [*, errW_none, errW_some] <;> rfl), bl HB.out⟩
       ·rw [if_neg c37] at H
        exact absurd H (by simp)
      ·rw [if_neg c35] at H
       exact absurd H (by simp)
    ·rw [if_neg c25] at H
     exact absurd H (by simp)
   ·rw [if_neg c23] at H
    exact absurd H (by simp)
 ·replace c3 := Bool.eq_false_iff.mpr c3
  subst c3
  have H1 : (some (⟨#[]⟩ : ByteArray)) = some r := by rw [if_neg (show ¬ (false = true) by decide)] at H; exact H
  clear H
  have H := H1
  clear H1
  obtain rfl := Option.some.inj H
  go_enter Tryd.func23, Tryd.ntmps23
  go_wp2_with (first | ((with_reducible refine gate_dst (N := 1) rfl ?_); refine box_event ?hg (N := 1) ?hd (cs := #[.int .i64 a0_0, .int .i64 a0_1, .int .i64 a0_2]) (t := 24) ?hr ?_; (case hd => rfl); (case hg => rfl); (case hr => first | (go_simp; done) | (go_simp; rfl)); intro gb109 hg w47 hbox hb; have n0_ := Aside0.mk (below_step (bl HB.out) hb); have n1_ := Aside0.mk (hbox); have n2_ := Aside0.mk ((by rw [hg]; exact (below_size (bl HB.out)) : w.heap.size ≤ gb109)); have n3_ := Aside0.mk ((by rw [hg]; exact (below_size (bl HB.out)) : w.heap.size ≤ gb109)); clear HB; have HB := n0_; have BK109 := n1_; have GW109 := n2_; have GE109 := n3_; clear n0_ n1_ n2_ n3_; clear hb hbox hg; obtain ⟨hcz48_0, hcz48_1, hcz48_2⟩ := hc3 BK109.out; obtain ⟨hfz48_0, hfz48_1, hfz48_2⟩ := hf3 BK109.out) | ((with_reducible refine gate_callee (f := 14) rfl ?_); refine goesL_ (some 6) rfl rfl Tryd.func14 (by kernel_rfl) rfl #[.agg #[.int .i64 a0_0, .int .i64 a0_1, .int .i64 a0_2]] rfl (by (try simp only [List.map_toArray, List.map_cons, List.map_nil]); first | done | rfl | (simp only [List.length_drop, List.length_take]; rfl)) ?_; (with_reducible refine (drachmref02_Right.calls k a0_0 a0_1 a0_2 false _ A2.out).mono ?_); rintro e w49 ⟨rfl, hb⟩; refine ⟨_, rfl, ?_⟩; replace BK109 := Aside0.mk (blk_below (kp BK109.out) hb); replace HB := Aside0.mk (below_step (bl HB.out) hb); (try clear hb); (try clear hb2); (try clear hk); (try clear hi)))
  go_ret
  exact ⟨by first | rfl | (simp [errW_none, errW_some] <;> rfl) | (simp [*, errW_none, errW_some] <;> rfl), bl HB.out⟩

/-! ### drachmref02_read: function 42 -/
mutual
def drachmref02_read.j0 : Nat → ByteArray → Int → Int → Bool → Option (Int × Int)
 | 0, _, _, _, _ => none
 | k + 1, x0, x1, x5, x18 => if x18 = true then (drachmref02_read.j1 k x0 (wrap64 (x1 + 1)) (-1)) else (drachmref02_read.j1 k x0 x1 x5)
def drachmref02_read.j1 : Nat → ByteArray → Int → Int → Option (Int × Int)
 | 0, _, _, _ => none
 | k + 1, x0, x1, x5 => drachmref02_read.l0 k x0 x1 x5 0 x1
def drachmref02_read.l0 : Nat → ByteArray → Int → Int → Int → Int → Option (Int × Int)
 | 0, _, _, _, _, _ => none
 | k + 1, x0, x1, x5, x6, x7 => if x1 < (x0.size : Int) then (if 0 ≤ x1 then (if (bt x0 x1) ≥ 48 then (drachmref02_read.j3 k x0 x1 x5 x6 x7 (decide ((bt x0 x1) ≤ 57))) else (drachmref02_read.j3 k x0 x1 x5 x6 x7 false)) else (none)) else (drachmref02_read.j3 k x0 x1 x5 x6 x7 false)
def drachmref02_read.j3 : Nat → ByteArray → Int → Int → Int → Int → Bool → Option (Int × Int)
 | 0, _, _, _, _, _, _ => none
 | k + 1, x0, x1, x5, x6, x7, x37 => if x37 = true then (if 0 ≤ x1 then (if x1 < (x0.size : Int) then (if x6 > ((9223372036854775807 - (((bt x0 x1) - 48) % 256)) / 10) then (some (0, (-1))) else (drachmref02_read.l0 k x0 (wrap64 (x1 + 1)) x5 (wrap64 ((wrap64 (x6 * 10)) + (((bt x0 x1) - 48) % 256))) x7)) else (none)) else (none)) else (if x1 = x7 then (some (0, (-1))) else (some (wrap64 (x5 * x6), x1)))
end
def drachmref02_read.f (k : Nat) (a0 : ByteArray) (a1 : Int) : Option (Int × Int) := if a1 < (a0.size : Int) then (if 0 ≤ a1 then (drachmref02_read.j0 k a0 a1 1 ((bt a0 a1) == 45)) else (none)) else (drachmref02_read.j0 k a0 a1 1 false)
theorem drachmref02_read.mono_l : ∀ k, (∀ y0 y1 y2 y3, LeO (drachmref02_read.j0 k y0 y1 y2 y3) (drachmref02_read.j0 (k + 1) y0 y1 y2 y3)) ∧ (∀ y0 y1 y2, LeO (drachmref02_read.j1 k y0 y1 y2) (drachmref02_read.j1 (k + 1) y0 y1 y2)) ∧ (∀ y0 y1 y2 y3 y4, LeO (drachmref02_read.l0 k y0 y1 y2 y3 y4) (drachmref02_read.l0 (k + 1) y0 y1 y2 y3 y4)) ∧ (∀ y0 y1 y2 y3 y4 y5, LeO (drachmref02_read.j3 k y0 y1 y2 y3 y4 y5) (drachmref02_read.j3 (k + 1) y0 y1 y2 y3 y4 y5))
 | 0 => ⟨fun _ _ _ _ r h => by simp [drachmref02_read.j0] at h, fun _ _ _ r h => by simp [drachmref02_read.j1] at h, fun _ _ _ _ _ r h => by simp [drachmref02_read.l0] at h, fun _ _ _ _ _ _ r h => by simp [drachmref02_read.j3] at h⟩
 | k + 1 => by
  obtain ⟨ih0, ih1, ih2, ih3⟩ := drachmref02_read.mono_l k
  refine ⟨?_, ?_, ?_, ?_⟩
  ·intro y0 y1 y2 y3
   unfold drachmref02_read.j0
   repeat' first
   | (with_reducible exact ih0 _ _ _ _)
   | (with_reducible exact ih1 _ _ _)
   | (with_reducible exact ih2 _ _ _ _ _)
   | (with_reducible exact ih3 _ _ _ _ _ _)
   | (with_reducible exact LeO.refl _)
   | (with_reducible exact LeO.none _)
   | (with_reducible refine LeO.ite ?_ ?_)
   | (with_reducible refine LeO.bind ?_ (fun _ => ?_))
   | exact ih0 _ _ _ _
   | exact ih1 _ _ _
   | exact ih2 _ _ _ _ _
   | exact ih3 _ _ _ _ _ _
   | exact LeO.none _
   | refine LeO.ite ?_ ?_
   | refine LeO.bind ?_ (fun _ => ?_)
  ·intro y0 y1 y2
   unfold drachmref02_read.j1
   repeat' first
   | (with_reducible exact ih0 _ _ _ _)
   | (with_reducible exact ih1 _ _ _)
   | (with_reducible exact ih2 _ _ _ _ _)
   | (with_reducible exact ih3 _ _ _ _ _ _)
   | (with_reducible exact LeO.refl _)
   | (with_reducible exact LeO.none _)
   | (with_reducible refine LeO.ite ?_ ?_)
   | (with_reducible refine LeO.bind ?_ (fun _ => ?_))
   | exact ih0 _ _ _ _
   | exact ih1 _ _ _
   | exact ih2 _ _ _ _ _
   | exact ih3 _ _ _ _ _ _
   | exact LeO.none _
   | refine LeO.ite ?_ ?_
   | refine LeO.bind ?_ (fun _ => ?_)
  ·intro y0 y1 y2 y3 y4
   unfold drachmref02_read.l0
   repeat' first
   | (with_reducible exact ih0 _ _ _ _)
   | (with_reducible exact ih1 _ _ _)
   | (with_reducible exact ih2 _ _ _ _ _)
   | (with_reducible exact ih3 _ _ _ _ _ _)
   | (with_reducible exact LeO.refl _)
   | (with_reducible exact LeO.none _)
   | (with_reducible refine LeO.ite ?_ ?_)
   | (with_reducible refine LeO.bind ?_ (fun _ => ?_))
   | exact ih0 _ _ _ _
   | exact ih1 _ _ _
   | exact ih2 _ _ _ _ _
   | exact ih3 _ _ _ _ _ _
   | exact LeO.none _
   | refine LeO.ite ?_ ?_
   | refine LeO.bind ?_ (fun _ => ?_)
  ·intro y0 y1 y2 y3 y4 y5
   unfold drachmref02_read.j3
   repeat' first
   | (with_reducible exact ih0 _ _ _ _)
   | (with_reducible exact ih1 _ _ _)
   | (with_reducible exact ih2 _ _ _ _ _)
   | (with_reducible exact ih3 _ _ _ _ _ _)
   | (with_reducible exact LeO.refl _)
   | (with_reducible exact LeO.none _)
   | (with_reducible refine LeO.ite ?_ ?_)
   | (with_reducible refine LeO.bind ?_ (fun _ => ?_))
   | exact ih0 _ _ _ _
   | exact ih1 _ _ _
   | exact ih2 _ _ _ _ _
   | exact ih3 _ _ _ _ _ _
   | exact LeO.none _
   | refine LeO.ite ?_ ?_
   | refine LeO.bind ?_ (fun _ => ?_)
theorem drachmref02_read.mono : ∀ a0 a1 k, LeO (drachmref02_read.f k a0 a1) (drachmref02_read.f (k + 1) a0 a1) := by
 intro a0 a1 k
 obtain ⟨ih0, ih1, ih2, ih3⟩ := drachmref02_read.mono_l k
 unfold drachmref02_read.f
 repeat' first
   | (with_reducible exact ih0 _ _ _ _)
   | (with_reducible exact ih1 _ _ _)
   | (with_reducible exact ih2 _ _ _ _ _)
   | (with_reducible exact ih3 _ _ _ _ _ _)
   | (with_reducible exact LeO.refl _)
   | (with_reducible exact LeO.none _)
   | (with_reducible refine LeO.ite ?_ ?_)
   | (with_reducible refine LeO.bind ?_ (fun _ => ?_))
   | exact ih0 _ _ _ _
   | exact ih1 _ _ _
   | exact ih2 _ _ _ _ _
   | exact ih3 _ _ _ _ _ _
   | exact LeO.none _
   | refine LeO.ite ?_ ?_
   | refine LeO.bind ?_ (fun _ => ?_)
set_option maxHeartbeats 8000000 in
set_option maxRecDepth 100000 in
theorem drachmref02_read.calls (k : Nat) (a0 : ByteArray) (a1 : Int) (r1 : Int) (r2 : Int) (w : World) (h : drachmref02_read.f k a0 a1 = some (r1, r2)) :
  Calls Tryd.prog 42 #[.string a0, .int .i64 a1] w fun e w' => e = .returned (.agg #[.int .i64 r1, .int .i64 r2]) ∧ Below w.heap.size w w' := by
 have hu77 := Tryd.underlying77
 have HB := Aside0.mk (Below.refl w.heap.size w)
 have H : (if a1 < (a0.size : Int) then (if 0 ≤ a1 then (drachmref02_read.j0 k a0 a1 1 ((bt a0 a1) == 45)) else (none)) else (drachmref02_read.j0 k a0 a1 1 false)) = some (r1, r2) := h
 clear h
 have HC3 := Aside0.mk H
 clear H
 go_enter Tryd.func42, Tryd.ntmps42
 go_upto_region 2 with (first | ((with_reducible refine gate_dst (N := 4) rfl ?_); refine box_event ?hg (N := 4) ?hd (cs := #[.int .i64 0, .int .i64 0]) (t := 77) ?hr ?_; (case hd => rfl); (case hg => rfl); (case hr => first | (go_simp; done) | (go_simp; rfl)); intro gb115 hg w4 hbox hb; have n0_ := Aside0.mk (below_step (bl HB.out) hb); have n1_ := Aside0.mk (hbox); have n2_ := Aside0.mk ((by rw [hg]; exact (below_size (bl HB.out)) : w.heap.size ≤ gb115)); have n3_ := Aside0.mk ((by rw [hg]; exact (below_size (bl HB.out)) : w.heap.size ≤ gb115)); clear HB; have HB := n0_; have BK115 := n1_; have GW115 := n2_; have GE115 := n3_; clear n0_ n1_ n2_ n3_; clear hb hbox hg))
 (try simp only [Act.put, List.setIfInBounds_toArray, List.set_cons_zero, List.set_cons_succ])
 go_cut [18] (fun v18 wc => ∃ (kq : Nat) (x18_2 : Bool), v18 = .bool x18_2 ∧ Aside0 (drachmref02_read.j0 kq a0 a1 1 x18_2 = some (r1, r2)) ∧ Aside0 (kq ≤ k) ∧ Aside0 (wc.heap[gb115]? = some (.cells #[.int .i64 0, .int .i64 0] 77 (0, 0))) ∧ Aside0 (Below w.heap.size w wc))
 case first =>
  have H := HC3.out
  clear HC3
  by_cases c5 : a1 < (a0.size : Int)
  ·rw [if_pos c5] at H
   have c5b0 : decide (a1 < (a0.size : Int)) = true := decide_eq_true c5
   clear c5
   (first | rw [c5b0] | (simp only [i64_w, i32_w]; rw [c5b0]) | skip)
   by_cases c6 : 0 ≤ a1
   ·rw [if_pos c6] at H
    have c6b0 : decide (0 ≤ a1) = true := decide_eq_true c6
    clear c6
    have H' := Aside0.mk H
    clear H
    have p7 : 0 ≤ (a1 : Int) := of_decide_eq_true (by first | (with_reducible assumption) | assumption)
    have q7 : a1 < (a0.size : Int) := of_decide_eq_true (by first | (with_reducible assumption) | assumption)
    have hx7 := bt_at a0 a1
    replace p7 := eq_true p7
    replace q7 := eq_true q7
    go_wp2
    go_meet
    case rel => exact ⟨_, (((bt a0 a1) == 45)), (by first | rfl | (simp; done) | (simp [*]; done)), H', ⟨by first | omega | exact Nat.le_refl _⟩, ⟨kp BK115.out⟩, ⟨bl HB.out⟩⟩
   ·rw [if_neg c6] at H
    exact absurd H (by simp)
  ·rw [if_neg c5] at H
   have c5b0 : decide (a1 < (a0.size : Int)) = false := decide_eq_false c5
   clear c5
   (first | rw [c5b0] | (simp only [i64_w, i32_w]; rw [c5b0]) | skip)
   have H' := Aside0.mk H
   clear H
   go_wp2
   go_meet
   case rel => exact ⟨_, (false), (by first | rfl | (simp; done) | (simp [*]; done)), H', ⟨by first | omega | exact Nat.le_refl _⟩, ⟨kp BK115.out⟩, ⟨bl HB.out⟩⟩
 case rest =>
  clear HC3
  try clear p2
  try clear c4
  try clear c5
  try clear c5b0
  try clear c6
  try clear c6b0
  try clear p7
  try clear q7
  try clear hx7
  try clear p7
  try clear q7
  obtain ⟨kq, x18_2, rfl, HA, HJ2, BK115, HB⟩ := hcut
  cases kq with
  | zero => exact absurd HA.out (by simp [drachmref02_read.j0])
  | succ kj2 =>
   have H := HA.out
   clear HA
   simp only [drachmref02_read.j0] at H
   have HC8 := Aside0.mk H
   clear H
   go_upto_if 18 with (fail)
   go_cut [1, 5] (fun v1 v5 wc => ∃ (kq : Nat) (x1_7 : Int) (x5_7 : Int), v1 = .int .i64 x1_7 ∧ v5 = .int .i64 x5_7 ∧ Aside0 (drachmref02_read.j1 kq a0 x1_7 x5_7 = some (r1, r2)) ∧ Aside0 (kq ≤ kj2) ∧ Aside0 (wc.heap[gb115]? = some (.cells #[.int .i64 0, .int .i64 0] 77 (0, 0))) ∧ Aside0 (Below w.heap.size w wc))
   case first =>
    have H := HC8.out
    clear HC8
    by_cases c9 : x18_2 = true
    ·subst c9
     have H1 : (drachmref02_read.j1 kj2 a0 (wrap64 (a1 + 1)) (-1)) = some (r1, r2) := by rw [if_pos rfl] at H; exact H
     clear H
     have H := H1
     clear H1
     have H' := Aside0.mk H
     clear H
     go_wp2
     go_meet
     case rel => exact ⟨_, (wrap64 (a1 + 1)), ((-1)), (by first | rfl | (simp; done) | (simp [*]; done)), (by first | rfl | (simp; done) | (simp [*]; done)), H', ⟨by have := HJ2.out; first | omega | exact Nat.le_refl _⟩, ⟨kp BK115.out⟩, ⟨bl HB.out⟩⟩
    ·replace c9 := Bool.eq_false_iff.mpr c9
     subst c9
     have H1 : (drachmref02_read.j1 kj2 a0 a1 1) = some (r1, r2) := by rw [if_neg (show ¬ (false = true) by decide)] at H; exact H
     clear H
     have H := H1
     clear H1
     have H' := Aside0.mk H
     clear H
     go_wp2
     go_meet
     case rel => exact ⟨_, (a1), (1), (by first | rfl | (simp; done) | (simp [*]; done)), (by first | rfl | (simp; done) | (simp [*]; done)), H', ⟨by have := HJ2.out; first | omega | exact Nat.le_refl _⟩, ⟨kp BK115.out⟩, ⟨bl HB.out⟩⟩
   case rest =>
    clear HC8
    try clear p2
    try clear c4
    try clear c5
    try clear c5b0
    try clear c6
    try clear c6b0
    try clear p6
    try clear p7
    try clear q7
    try clear hx7
    try clear c9
    try clear p2
    try clear p7
    try clear q7
    obtain ⟨kq, x1_7, x5_7, rfl, rfl, HA, HJ7, BK115, HB⟩ := hcut
    cases kq with
    | zero => exact absurd HA.out (by simp [drachmref02_read.j1])
    | succ kj7 =>
     have H := HA.out
     clear HA
     simp only [drachmref02_read.j1] at H
     have H' := Aside0.mk H
     clear H
     go_wp2
     go_loopg [1, 6] kj7 (fun kq v1 v6 w' => ∃ (x1_3 : Int) (x6_3 : Int) (x116000_3 : Int) (x116001_3 : Int), v1 = .int .i64 x1_3 ∧ v6 = .int .i64 x6_3 ∧ Aside0 (drachmref02_read.l0 kq a0 x1_3 x5_7 x6_3 x1_7 = some (r1, r2)) ∧ Aside0 (kq ≤ kj7) ∧ Aside0 (w'.heap[gb115]? = some (.cells #[.int .i64 x116000_3, .int .i64 x116001_3] 77 (0, 0))) ∧ Aside0 (Below w.heap.size w w'))
     case atStart => exact ⟨(x1_7), (0), (0), (0), (by first | rfl | (simp; done) | (simp [*]; done)), (by first | rfl | (simp; done) | (simp [*]; done)), H', ⟨Nat.le_refl _⟩, ⟨kp BK115.out⟩, ⟨bl HB.out⟩⟩
     case round =>
      clear H'
      try clear p2
      try clear c4
      try clear c5
      try clear c5b0
      try clear c6
      try clear c6b0
      try clear p6
      try clear p7
      try clear q7
      try clear hx7
      try clear c9
      try clear p2
      try clear p6
      try clear p7
      try clear q7
      obtain ⟨x1_3, x6_3, x116000_3, x116001_3, rfl, rfl, HA, HK3, BK115, HB⟩ := hrel
      cases gk with
      | zero => exact absurd HA.out (by simp [drachmref02_read.l0])
      | succ k3 =>
       have H := HA.out
       clear HA
       simp only [drachmref02_read.l0] at H
       have HC10 := Aside0.mk H
       clear H
       go_upto_region 7 with (fail)
       go_cut [37] (fun v37 wc => ∃ (kq : Nat) (x37_9 : Bool), v37 = .bool x37_9 ∧ Aside0 (drachmref02_read.j3 kq a0 x1_3 x5_7 x6_3 x1_7 x37_9 = some (r1, r2)) ∧ Aside0 (kq ≤ k3) ∧ Aside0 (wc.heap[gb115]? = some (.cells #[.int .i64 x116000_3, .int .i64 x116001_3] 77 (0, 0))) ∧ Aside0 (Below w.heap.size w wc))
       case first =>
        have H := HC10.out
        clear HC10
        by_cases c11 : x1_3 < (a0.size : Int)
        ·rw [if_pos c11] at H
         have c11b0 : decide (x1_3 < (a0.size : Int)) = true := decide_eq_true c11
         clear c11
         (first | rw [c11b0] | (simp only [i64_w, i32_w]; rw [c11b0]) | skip)
         by_cases c12 : 0 ≤ x1_3
         ·rw [if_pos c12] at H
          have c12b0 : decide (0 ≤ x1_3) = true := decide_eq_true c12
          clear c12
          by_cases c14 : (bt a0 x1_3) ≥ 48
          ·rw [if_pos c14] at H
           have c14b0 : decide (48 ≤ (bt a0 x1_3)) = true := decide_eq_true c14
           clear c14
           have H' := Aside0.mk H
           clear H
           have p13 : 0 ≤ (x1_3 : Int) := of_decide_eq_true (by first | (with_reducible assumption) | assumption)
           have q13 : x1_3 < (a0.size : Int) := of_decide_eq_true (by first | (with_reducible assumption) | assumption)
           have hx13 := bt_at a0 x1_3
           replace p13 := eq_true p13
           replace q13 := eq_true q13
           have p15 : 0 ≤ (x1_3 : Int) := of_decide_eq_true (by first | (with_reducible assumption) | assumption)
           have q15 : x1_3 < (a0.size : Int) := of_decide_eq_true (by first | (with_reducible assumption) | assumption)
           have hx15 := bt_at a0 x1_3
           replace p15 := eq_true p15
           replace q15 := eq_true q15
           go_wp2
           go_meet
           case rel => exact ⟨_, (decide ((bt a0 x1_3) ≤ 57)), (by first | rfl | (simp; done) | (simp [*]; done)), H', ⟨by have := HJ2.out; have := HJ7.out; have := HK3.out; first | omega | exact Nat.le_refl _⟩, ⟨kp BK115.out⟩, ⟨bl HB.out⟩⟩
          ·rw [if_neg c14] at H
           have c14b0 : decide (48 ≤ (bt a0 x1_3)) = false := decide_eq_false c14
           clear c14
           have H' := Aside0.mk H
           clear H
           have p13 : 0 ≤ (x1_3 : Int) := of_decide_eq_true (by first | (with_reducible assumption) | assumption)
           have q13 : x1_3 < (a0.size : Int) := of_decide_eq_true (by first | (with_reducible assumption) | assumption)
           have hx13 := bt_at a0 x1_3
           replace p13 := eq_true p13
           replace q13 := eq_true q13
           go_wp2
           go_meet
           case rel => exact ⟨_, (false), (by first | rfl | (simp; done) | (simp [*]; done)), H', ⟨by have := HJ2.out; have := HJ7.out; have := HK3.out; first | omega | exact Nat.le_refl _⟩, ⟨kp BK115.out⟩, ⟨bl HB.out⟩⟩
         ·rw [if_neg c12] at H
          exact absurd H (by simp)
        ·rw [if_neg c11] at H
         have c11b0 : decide (x1_3 < (a0.size : Int)) = false := decide_eq_false c11
         clear c11
         (first | rw [c11b0] | (simp only [i64_w, i32_w]; rw [c11b0]) | skip)
         have H' := Aside0.mk H
         clear H
         go_wp2
         go_meet
         case rel => exact ⟨_, (false), (by first | rfl | (simp; done) | (simp [*]; done)), H', ⟨by have := HJ2.out; have := HJ7.out; have := HK3.out; first | omega | exact Nat.le_refl _⟩, ⟨kp BK115.out⟩, ⟨bl HB.out⟩⟩
       case rest =>
        clear HC10
        try clear c1
        try clear p1
        try clear q1
        try clear hx1
        try clear p2
        try clear c4
        try clear c5
        try clear c5b0
        try clear c6
        try clear c6b0
        try clear p6
        try clear p7
        try clear q7
        try clear hx7
        try clear c9
        try clear c11
        try clear c11b0
        try clear c12
        try clear c12b0
        try clear p13
        try clear q13
        try clear hx13
        try clear c14
        try clear c14b0
        try clear p15
        try clear q15
        try clear hx15
        try clear p13
        try clear p15
        try clear p2
        try clear p6
        try clear p7
        try clear q13
        try clear q15
        try clear q7
        obtain ⟨kq, x37_9, rfl, HA, HJ9, BK115, HB⟩ := hcut
        cases kq with
        | zero => exact absurd HA.out (by simp [drachmref02_read.j3])
        | succ kj9 =>
         have H := HA.out
         clear HA
         simp only [drachmref02_read.j3] at H
         by_cases c16 : x37_9 = true
         ·subst c16
          have H1 : (if 0 ≤ x1_3 then (if x1_3 < (a0.size : Int) then (if x6_3 > ((9223372036854775807 - (((bt a0 x1_3) - 48) % 256)) / 10) then (some (0, (-1))) else (drachmref02_read.l0 kj9 a0 (wrap64 (x1_3 + 1)) x5_7 (wrap64 ((wrap64 (x6_3 * 10)) + (((bt a0 x1_3) - 48) % 256))) x1_7)) else (none)) else (none)) = some (r1, r2) := by rw [if_pos rfl] at H; exact H
          clear H
          have H := H1
          clear H1
          by_cases c17 : 0 ≤ x1_3
          ·rw [if_pos c17] at H
           have c17b0 : decide (0 ≤ x1_3) = true := decide_eq_true c17
           clear c17
           by_cases c18 : x1_3 < (a0.size : Int)
           ·rw [if_pos c18] at H
            have c18b0 : decide (x1_3 < (a0.size : Int)) = true := decide_eq_true c18
            clear c18
            by_cases c20 : x6_3 > ((9223372036854775807 - (((bt a0 x1_3) - 48) % 256)) / 10)
            ·rw [if_pos c20] at H
             have c20b0 : decide (((9223372036854775807 - (((bt a0 x1_3) - 48) % 256)) / 10) < x6_3) = true := decide_eq_true c20
             clear c20
             simp only [Option.some.injEq, Prod.mk.injEq] at H
             obtain ⟨rfl, rfl⟩ := H
             have p19 : 0 ≤ (x1_3 : Int) := of_decide_eq_true (by first | (with_reducible assumption) | assumption)
             have q19 : x1_3 < (a0.size : Int) := of_decide_eq_true (by first | (with_reducible assumption) | assumption)
             have hx19 := bt_at a0 x1_3
             replace p19 := eq_true p19
             replace q19 := eq_true q19
             obtain ⟨hcz21_0, hcz21_1⟩ := hc2 BK115.out
             obtain ⟨hfz21_0, hfz21_1⟩ := hf2 BK115.out
             go_wp2
             refine bodyPost_ret (results_cell_row rfl _ _ gb115 77 #[.int .i64 0, .int .i64 (-1)] (0, 0) _ rfl (kp (p2_1 (kp (p2_0 (kp BK115.out))))) Tryd.underlying77 rfl (by kernel_rfl)) rfl ?_
             exact ⟨by first | rfl | (simp [errW_none, errW_some] <;> rfl) | (simp [*, errW_none, errW_some] <;> rfl), bl HB.out⟩
            ·rw [if_neg c20] at H
             have c20b0 : decide (((9223372036854775807 - (((bt a0 x1_3) - 48) % 256)) / 10) < x6_3) = false := decide_eq_false c20
             clear c20
             have H' := Aside0.mk H
             clear H
             have p19 : 0 ≤ (x1_3 : Int) := of_decide_eq_true (by first | (with_reducible assumption) | assumption)
             have q19 : x1_3 < (a0.size : Int) := of_decide_eq_true (by first | (with_reducible assumption) | assumption)
             have hx19 := bt_at a0 x1_3
             replace p19 := eq_true p19
             replace q19 := eq_true q19
             go_wp2
             go_roundg kj9
             case measure => have := HJ2.out; have := HJ7.out; have := HK3.out; have := HJ9.out; omega
             case rel => exact ⟨(wrap64 (x1_3 + 1)), (wrap64 ((wrap64 (x6_3 * 10)) + (((bt a0 x1_3) - 48) % 256))), (x116000_3), (x116001_3), (by first | rfl | (simp; done) | (simp [*]; done)), (by first | rfl | (simp; done) | (simp [*]; done)), H', ⟨by have := HJ2.out; have := HJ7.out; have := HK3.out; have := HJ9.out; omega⟩, ⟨kp BK115.out⟩, ⟨bl HB.out⟩⟩
           ·rw [if_neg c18] at H
            exact absurd H (by simp)
          ·rw [if_neg c17] at H
           exact absurd H (by simp)
         ·replace c16 := Bool.eq_false_iff.mpr c16
          subst c16
          have H1 : (if x1_3 = x1_7 then (some (0, (-1))) else (some (wrap64 (x5_7 * x6_3), x1_3))) = some (r1, r2) := by rw [if_neg (show ¬ (false = true) by decide)] at H; exact H
          clear H
          have H := H1
          clear H1
          by_cases c22 : x1_3 = x1_7
          ·rw [if_pos c22] at H
           have c22b0 : (x1_3 == x1_7) = true := beq_iff_eq.mpr c22
           have c22b1 : (x1_3 != x1_7) = false := bne_eq_false_iff_eq.mpr c22
           clear c22
           simp only [Option.some.injEq, Prod.mk.injEq] at H
           obtain ⟨rfl, rfl⟩ := H
           obtain ⟨hcz23_0, hcz23_1⟩ := hc2 BK115.out
           obtain ⟨hfz23_0, hfz23_1⟩ := hf2 BK115.out
           go_wp2
           refine bodyPost_ret (results_cell_row rfl _ _ gb115 77 #[.int .i64 0, .int .i64 (-1)] (0, 0) _ rfl (kp (p2_1 (kp (p2_0 (kp BK115.out))))) Tryd.underlying77 rfl (by kernel_rfl)) rfl ?_
           exact ⟨by first | rfl | (simp [errW_none, errW_some] <;> rfl) | (simp [*, errW_none, errW_some] <;> rfl), bl HB.out⟩
          ·rw [if_neg c22] at H
           have c22b0 : (x1_3 == x1_7) = false := beq_eq_false_iff_ne.mpr c22
           have c22b1 : (x1_3 != x1_7) = true := bne_iff_ne.mpr c22
           simp only [Option.some.injEq, Prod.mk.injEq] at H
           obtain ⟨rfl, rfl⟩ := H
           obtain ⟨hcz24_0, hcz24_1⟩ := hc2 BK115.out
           obtain ⟨hfz24_0, hfz24_1⟩ := hf2 BK115.out
           go_wp2
           refine bodyPost_ret (results_cell_row rfl _ _ gb115 77 #[.int .i64 (wrap64 (x5_7 * x6_3)), .int .i64 x1_3] (0, 0) _ rfl (kp (p2_1 (kp (p2_0 (kp BK115.out))))) Tryd.underlying77 rfl (by kernel_rfl)) rfl ?_
           exact ⟨by first | rfl | (simp [errW_none, errW_some] <;> rfl) | (simp [*, errW_none, errW_some] <;> rfl), bl HB.out⟩

/-! ### drachmref02_Read: function 21 -/
mutual
def drachmref02_Read.j0 : Nat → ByteArray → Bool → Int → Int → Int → Int → Int → Option (Int × Int × Int × Int)
 | 0, _, _, _, _, _, _, _ => none
 | k + 1, x0, x27, x118000, x118001, x118002, x121000, x121001 => if x27 = true then ((drachmref02_read.f k x0 (wrap64 (x121001 + 1))).bind fun bt121 => (drachmref02_Read.j1 k x0 x118000 bt121.1 x118002 bt121.1 bt121.2)) else (drachmref02_Read.j1 k x0 x118000 x118001 x118002 x121000 x121001)
def drachmref02_Read.j1 : Nat → ByteArray → Int → Int → Int → Int → Int → Option (Int × Int × Int × Int)
 | 0, _, _, _, _, _, _ => none
 | k + 1, x0, x118000, x118001, x118002, x121000, x121001 => if x121001 ≥ 0 then (if x121001 < (x0.size : Int) then (if 0 ≤ x121001 then (drachmref02_Read.j2 k x0 ((bt x0 x121001) == 101) x118000 x118001 x118002 x121000 x121001) else (none)) else (drachmref02_Read.j2 k x0 false x118000 x118001 x118002 x121000 x121001)) else (drachmref02_Read.j2 k x0 false x118000 x118001 x118002 x121000 x121001)
def drachmref02_Read.j2 : Nat → ByteArray → Bool → Int → Int → Int → Int → Int → Option (Int × Int × Int × Int)
 | 0, _, _, _, _, _, _, _ => none
 | k + 1, x0, x52, x118000, x118001, x118002, x121000, x121001 => if x52 = true then ((drachmref02_read.f k x0 (wrap64 (x121001 + 1))).bind fun bt123 => (if bt123.2 = (x0.size : Int) then (if (x0.size : Int) = 0 then (some (0, 0, 0, 20)) else ((drachmref02_Text.f k x118000 x118001 bt123.1).bind fun t125 => (if t125.toList = x0.toList then (some (x118000, x118001, bt123.1, 0)) else (some (0, 0, 0, 20))))) else (some (0, 0, 0, 20)))) else (if x121001 = (x0.size : Int) then (if (x0.size : Int) = 0 then (some (0, 0, 0, 20)) else ((drachmref02_Text.f k x118000 x118001 x118002).bind fun t126 => (if t126.toList = x0.toList then (some (x118000, x118001, x118002, 0)) else (some (0, 0, 0, 20))))) else (some (0, 0, 0, 20)))
end
def drachmref02_Read.f (k : Nat) (a0 : ByteArray) : Option (Int × Int × Int × Int) := (drachmref02_read.f k a0 0).bind fun bt118 => (if bt118.2 ≥ 0 then (if bt118.2 < (a0.size : Int) then (if 0 ≤ bt118.2 then (drachmref02_Read.j0 k a0 ((bt a0 bt118.2) == 47) bt118.1 1 0 bt118.1 bt118.2) else (none)) else (drachmref02_Read.j0 k a0 false bt118.1 1 0 bt118.1 bt118.2)) else (drachmref02_Read.j0 k a0 false bt118.1 1 0 bt118.1 bt118.2))
theorem drachmref02_Read.mono_l : ∀ k, (∀ y0 y1 y2 y3 y4 y5 y6, LeO (drachmref02_Read.j0 k y0 y1 y2 y3 y4 y5 y6) (drachmref02_Read.j0 (k + 1) y0 y1 y2 y3 y4 y5 y6)) ∧ (∀ y0 y1 y2 y3 y4 y5, LeO (drachmref02_Read.j1 k y0 y1 y2 y3 y4 y5) (drachmref02_Read.j1 (k + 1) y0 y1 y2 y3 y4 y5)) ∧ (∀ y0 y1 y2 y3 y4 y5 y6, LeO (drachmref02_Read.j2 k y0 y1 y2 y3 y4 y5 y6) (drachmref02_Read.j2 (k + 1) y0 y1 y2 y3 y4 y5 y6))
 | 0 => ⟨fun _ _ _ _ _ _ _ r h => by simp [drachmref02_Read.j0] at h, fun _ _ _ _ _ _ r h => by simp [drachmref02_Read.j1] at h, fun _ _ _ _ _ _ _ r h => by simp [drachmref02_Read.j2] at h⟩
 | k + 1 => by
  obtain ⟨ih0, ih1, ih2⟩ := drachmref02_Read.mono_l k
  refine ⟨?_, ?_, ?_⟩
  ·intro y0 y1 y2 y3 y4 y5 y6
   unfold drachmref02_Read.j0
   repeat' first
   | (with_reducible exact ih0 _ _ _ _ _ _ _)
   | (with_reducible exact ih1 _ _ _ _ _ _)
   | (with_reducible exact ih2 _ _ _ _ _ _ _)
   | (with_reducible exact drachmref02_Text.mono _ _ _ _)
   | (with_reducible exact drachmref02_read.mono _ _ _)
   | (with_reducible exact LeO.refl _)
   | (with_reducible exact LeO.none _)
   | (with_reducible refine LeO.ite ?_ ?_)
   | (with_reducible refine LeO.bind ?_ (fun _ => ?_))
   | exact ih0 _ _ _ _ _ _ _
   | exact ih1 _ _ _ _ _ _
   | exact ih2 _ _ _ _ _ _ _
   | exact drachmref02_Text.mono _ _ _ _
   | exact drachmref02_read.mono _ _ _
   | exact LeO.none _
   | refine LeO.ite ?_ ?_
   | refine LeO.bind ?_ (fun _ => ?_)
  ·intro y0 y1 y2 y3 y4 y5
   unfold drachmref02_Read.j1
   repeat' first
   | (with_reducible exact ih0 _ _ _ _ _ _ _)
   | (with_reducible exact ih1 _ _ _ _ _ _)
   | (with_reducible exact ih2 _ _ _ _ _ _ _)
   | (with_reducible exact drachmref02_Text.mono _ _ _ _)
   | (with_reducible exact drachmref02_read.mono _ _ _)
   | (with_reducible exact LeO.refl _)
   | (with_reducible exact LeO.none _)
   | (with_reducible refine LeO.ite ?_ ?_)
   | (with_reducible refine LeO.bind ?_ (fun _ => ?_))
   | exact ih0 _ _ _ _ _ _ _
   | exact ih1 _ _ _ _ _ _
   | exact ih2 _ _ _ _ _ _ _
   | exact drachmref02_Text.mono _ _ _ _
   | exact drachmref02_read.mono _ _ _
   | exact LeO.none _
   | refine LeO.ite ?_ ?_
   | refine LeO.bind ?_ (fun _ => ?_)
  ·intro y0 y1 y2 y3 y4 y5 y6
   unfold drachmref02_Read.j2
   repeat' first
   | (with_reducible exact ih0 _ _ _ _ _ _ _)
   | (with_reducible exact ih1 _ _ _ _ _ _)
   | (with_reducible exact ih2 _ _ _ _ _ _ _)
   | (with_reducible exact drachmref02_Text.mono _ _ _ _)
   | (with_reducible exact drachmref02_read.mono _ _ _)
   | (with_reducible exact LeO.refl _)
   | (with_reducible exact LeO.none _)
   | (with_reducible refine LeO.ite ?_ ?_)
   | (with_reducible refine LeO.bind ?_ (fun _ => ?_))
   | exact ih0 _ _ _ _ _ _ _
   | exact ih1 _ _ _ _ _ _
   | exact ih2 _ _ _ _ _ _ _
   | exact drachmref02_Text.mono _ _ _ _
   | exact drachmref02_read.mono _ _ _
   | exact LeO.none _
   | refine LeO.ite ?_ ?_
   | refine LeO.bind ?_ (fun _ => ?_)
theorem drachmref02_Read.mono : ∀ a0 k, LeO (drachmref02_Read.f k a0) (drachmref02_Read.f (k + 1) a0) := by
 intro a0 k
 obtain ⟨ih0, ih1, ih2⟩ := drachmref02_Read.mono_l k
 unfold drachmref02_Read.f
 repeat' first
   | (with_reducible exact ih0 _ _ _ _ _ _ _)
   | (with_reducible exact ih1 _ _ _ _ _ _)
   | (with_reducible exact ih2 _ _ _ _ _ _ _)
   | (with_reducible exact drachmref02_Text.mono _ _ _ _)
   | (with_reducible exact drachmref02_read.mono _ _ _)
   | (with_reducible exact LeO.refl _)
   | (with_reducible exact LeO.none _)
   | (with_reducible refine LeO.ite ?_ ?_)
   | (with_reducible refine LeO.bind ?_ (fun _ => ?_))
   | exact ih0 _ _ _ _ _ _ _
   | exact ih1 _ _ _ _ _ _
   | exact ih2 _ _ _ _ _ _ _
   | exact drachmref02_Text.mono _ _ _ _
   | exact drachmref02_read.mono _ _ _
   | exact LeO.none _
   | refine LeO.ite ?_ ?_
   | refine LeO.bind ?_ (fun _ => ?_)
set_option maxHeartbeats 8000000 in
set_option maxRecDepth 100000 in
theorem drachmref02_Read.calls (k : Nat) (a0 : ByteArray) (r1 : Int) (r2 : Int) (r3 : Int) (r4 : Int) (w : World) (h : drachmref02_Read.f k a0 = some (r1, r2, r3, r4)) :
  Calls Tryd.prog 21 #[.string a0] w fun e w' => e = .returned (.agg #[.int .i64 r1, .int .i64 r2, .int .i64 r3, .int .i64 r4]) ∧ Below w.heap.size w w' := by
 have hu30 := Tryd.underlying30
 have hu24 := Tryd.underlying24
 have hu77 := Tryd.underlying77
 have HB := Aside0.mk (Below.refl w.heap.size w)
 have H : ((drachmref02_read.f k a0 0).bind fun bt118 => (if bt118.2 ≥ 0 then (if bt118.2 < (a0.size : Int) then (if 0 ≤ bt118.2 then (drachmref02_Read.j0 k a0 ((bt a0 bt118.2) == 47) bt118.1 1 0 bt118.1 bt118.2) else (none)) else (drachmref02_Read.j0 k a0 false bt118.1 1 0 bt118.1 bt118.2)) else (drachmref02_Read.j0 k a0 false bt118.1 1 0 bt118.1 bt118.2))) = some (r1, r2, r3, r4) := h
 clear h
 replace H := Option.bind_eq_some_iff.mp H
 obtain ⟨⟨t118, t119⟩, A20, H⟩ := H
 replace H : (if t119 ≥ 0 then (if t119 < (a0.size : Int) then (if 0 ≤ t119 then (drachmref02_Read.j0 k a0 ((bt a0 t119) == 47) t118 1 0 t118 t119) else (none)) else (drachmref02_Read.j0 k a0 false t118 1 0 t118 t119)) else (drachmref02_Read.j0 k a0 false t118 1 0 t118 t119)) = some (r1, r2, r3, r4) := H
 have A2 := Aside0.mk A20
 clear A20
 have HC3 := Aside0.mk H
 clear H
 go_enter Tryd.func21, Tryd.ntmps21
 go_upto_region 4 with (first | ((with_reducible refine gate_dst (N := 2) rfl ?_); (try (refine gate_guard (by rfl) ?_; dsimp only)); refine box_event ?hg (N := 2) ?hd (cs := #[.int .i64 0, .int .i64 0, .int .i64 0, .int .i64 0]) (t := 30) ?hr ?_; (case hd => rfl); (case hg => rfl); (case hr => first | (go_simp; done) | (go_simp; rfl)); intro gb116 hg w4 hbox hb; have n0_ := Aside0.mk (below_step (bl HB.out) hb); have n1_ := Aside0.mk (hbox); have n2_ := Aside0.mk ((by rw [hg]; exact (below_size (bl HB.out)) : w.heap.size ≤ gb116)); have n3_ := Aside0.mk ((by rw [hg]; exact (below_size (bl HB.out)) : w.heap.size ≤ gb116)); clear HB; have HB := n0_; have BK116 := n1_; have GW116 := n2_; have GE116 := n3_; clear n0_ n1_ n2_ n3_; clear hb hbox hg) | ((with_reducible refine gate_dst (N := 3) rfl ?_); (try (refine gate_guard (by rfl) ?_; dsimp only)); refine box_event ?hg (N := 3) ?hd (cs := #[.int .i64 0, .int .i64 0, .int .i64 0]) (t := 24) ?hr ?_; (case hd => rfl); (case hg => rfl); (case hr => first | (go_simp; done) | (go_simp; rfl)); intro gb117 hg w5 hbox hb; have n0_ := Aside0.mk (blk_below (kp BK116.out) hb); have n1_ := Aside0.mk (below_step (bl HB.out) hb); have n2_ := Aside0.mk (hbox); have n3_ := Aside0.mk ((by rw [hg]; exact (below_size (bl HB.out)) : w.heap.size ≤ gb117)); have n4_ := Aside0.mk ((by rw [hg]; exact (below_size (bl HB.out)) : w.heap.size ≤ gb117)); have n5_ := Aside0.mk ((by rw [hg]; exact Nat.ne_of_lt (blk_lt (kp BK116.out)) : gb116 ≠ gb117)); have n6_ := Aside0.mk ((by rw [hg]; exact Nat.ne_of_gt (blk_lt (kp BK116.out)) : gb117 ≠ gb116)); clear BK116; clear HB; have BK116 := n0_; have HB := n1_; have BK117 := n2_; have GW117 := n3_; have GE117 := n4_; have NB116_117 := n5_; have NB117_116 := n6_; clear n0_ n1_ n2_ n3_ n4_ n5_ n6_; clear hb hbox hg; have hnb6 := NB117_116.out; have hnc6 := NB116_117.out; obtain ⟨hcz7_0, hcz7_1, hcz7_2⟩ := hc3 BK117.out; obtain ⟨hfz7_0, hfz7_1, hfz7_2⟩ := hf3 BK117.out) | ((with_reducible refine gate_callee (f := 42) rfl ?_); refine goesL_ (some 7) rfl rfl Tryd.func42 (by kernel_rfl) rfl #[.string a0, .int .i64 0] rfl (by (try simp only [List.map_toArray, List.map_cons, List.map_nil]); first | done | rfl | (simp only [List.length_drop, List.length_take]; rfl)) ?_; (with_reducible refine (drachmref02_read.calls k a0 0 t118 t119 _ A2.out).mono ?_); rintro e w8 ⟨rfl, hb⟩; refine ⟨_, rfl, ?_⟩; replace BK116 := Aside0.mk (blk_below (kp BK116.out) hb); replace BK117 := Aside0.mk (blk_below (kp (p3_2 (kp (p3_1 (kp (p3_0 (kp BK117.out))))))) hb); replace HB := Aside0.mk (below_step (bl HB.out) hb); (try clear hb); (try clear hb2); (try clear hk); (try clear hi)) | ((with_reducible refine gate_dst (N := 4) rfl ?_); (try (refine gate_guard (by rfl) ?_; dsimp only)); refine box_event ?hg (N := 4) ?hd (cs := #[.int .i64 0, .int .i64 0]) (t := 77) ?hr ?_; (case hd => rfl); (case hg => rfl); (case hr => first | (go_simp; done) | (go_simp; rfl)); intro gb120 hg w9 hbox hb; have n0_ := Aside0.mk (blk_below (kp BK116.out) hb); have n1_ := Aside0.mk (blk_below (kp BK117.out) hb); have n2_ := Aside0.mk (below_step (bl HB.out) hb); have n3_ := Aside0.mk (hbox); have n4_ := Aside0.mk ((by rw [hg]; exact (below_size (bl HB.out)) : w.heap.size ≤ gb120)); have n5_ := Aside0.mk ((by rw [hg]; exact (below_size (bl HB.out)) : w.heap.size ≤ gb120)); have n6_ := Aside0.mk ((by rw [hg]; exact Nat.ne_of_lt (blk_lt (kp BK116.out)) : gb116 ≠ gb120)); have n7_ := Aside0.mk ((by rw [hg]; exact Nat.ne_of_gt (blk_lt (kp BK116.out)) : gb120 ≠ gb116)); have n8_ := Aside0.mk ((by rw [hg]; exact Nat.ne_of_lt (blk_lt (kp BK117.out)) : gb117 ≠ gb120)); have n9_ := Aside0.mk ((by rw [hg]; exact Nat.ne_of_gt (blk_lt (kp BK117.out)) : gb120 ≠ gb117)); clear BK116; clear BK117; clear HB; have BK116 := n0_; have BK117 := n1_; have HB := n2_; have BK120 := n3_; have GW120 := n4_; have GE120 := n5_; have NB116_120 := n6_; have NB120_116 := n7_; have NB117_120 := n8_; have NB120_117 := n9_; clear n0_ n1_ n2_ n3_ n4_ n5_ n6_ n7_ n8_ n9_; clear hb hbox hg; have hnb10 := NB120_116.out; have hnc10 := NB116_120.out; have hnb11 := NB120_117.out; have hnc11 := NB117_120.out; obtain ⟨hcz12_0, hcz12_1⟩ := hc2 BK120.out; obtain ⟨hfz12_0, hfz12_1⟩ := hf2 BK120.out; obtain ⟨hcz13_0, hcz13_1, hcz13_2⟩ := hc3 BK117.out; obtain ⟨hfz13_0, hfz13_1, hfz13_2⟩ := hf3 BK117.out))
 (try simp only [Act.put, List.setIfInBounds_toArray, List.set_cons_zero, List.set_cons_succ])
 go_cut [27] (fun v27 wc => ∃ (kq : Nat) (x27_2 : Bool), v27 = .bool x27_2 ∧ Aside0 (drachmref02_Read.j0 kq a0 x27_2 t118 1 0 t118 t119 = some (r1, r2, r3, r4)) ∧ Aside0 (kq ≤ k) ∧ Aside0 (wc.heap[gb116]? = some (.cells #[.int .i64 0, .int .i64 0, .int .i64 0, .int .i64 0] 30 (0, 0))) ∧ Aside0 (wc.heap[gb117]? = some (.cells #[.int .i64 t118, .int .i64 1, .int .i64 0] 24 (0, 0))) ∧ Aside0 (wc.heap[gb120]? = some (.cells #[.int .i64 t118, .int .i64 t119] 77 (0, 0))) ∧ Aside0 (Below w.heap.size w wc))
 case first =>
  have H := HC3.out
  clear HC3
  by_cases c14 : t119 ≥ 0
  ·rw [if_pos c14] at H
   have c14b0 : decide (0 ≤ t119) = true := decide_eq_true c14
   clear c14
   (first | rw [c14b0] | (simp only [i64_w, i32_w]; rw [c14b0]) | skip)
   by_cases c15 : t119 < (a0.size : Int)
   ·rw [if_pos c15] at H
    have c15b0 : decide (t119 < (a0.size : Int)) = true := decide_eq_true c15
    clear c15
    by_cases c16 : 0 ≤ t119
    ·rw [if_pos c16] at H
     have c16b0 : decide (0 ≤ t119) = true := decide_eq_true c16
     clear c16
     have H' := Aside0.mk H
     clear H
     have hnb18 := NB120_116.out
     have hnc18 := NB116_120.out
     have hnb19 := NB120_117.out
     have hnc19 := NB117_120.out
     obtain ⟨hcz20_0, hcz20_1⟩ := hc2 BK120.out
     obtain ⟨hfz20_0, hfz20_1⟩ := hf2 BK120.out
     have p17 : 0 ≤ (t119 : Int) := of_decide_eq_true (by first | (with_reducible assumption) | assumption)
     have q17 : t119 < (a0.size : Int) := of_decide_eq_true (by first | (with_reducible assumption) | assumption)
     have hx17 := bt_at a0 t119
     replace p17 := eq_true p17
     replace q17 := eq_true q17
     go_wp2
     go_meet
     case rel => exact ⟨_, (((bt a0 t119) == 47)), (by first | rfl | (simp; done) | (simp [*]; done)), H', ⟨by first | omega | exact Nat.le_refl _⟩, ⟨kp BK116.out⟩, ⟨kp (p3_0 (kp BK117.out))⟩, ⟨kp (p2_1 (kp (p2_0 (kp BK120.out))))⟩, ⟨bl HB.out⟩⟩
    ·rw [if_neg c16] at H
     exact absurd H (by simp)
   ·rw [if_neg c15] at H
    have c15b0 : decide (t119 < (a0.size : Int)) = false := decide_eq_false c15
    clear c15
    have H' := Aside0.mk H
    clear H
    have hnb21 := NB120_116.out
    have hnc21 := NB116_120.out
    have hnb22 := NB120_117.out
    have hnc22 := NB117_120.out
    obtain ⟨hcz23_0, hcz23_1⟩ := hc2 BK120.out
    obtain ⟨hfz23_0, hfz23_1⟩ := hf2 BK120.out
    go_wp2
    go_meet
    case rel => exact ⟨_, (false), (by first | rfl | (simp; done) | (simp [*]; done)), H', ⟨by first | omega | exact Nat.le_refl _⟩, ⟨kp BK116.out⟩, ⟨kp (p3_0 (kp BK117.out))⟩, ⟨kp (p2_1 (kp (p2_0 (kp BK120.out))))⟩, ⟨bl HB.out⟩⟩
  ·rw [if_neg c14] at H
   have c14b0 : decide (0 ≤ t119) = false := decide_eq_false c14
   clear c14
   (first | rw [c14b0] | (simp only [i64_w, i32_w]; rw [c14b0]) | skip)
   have H' := Aside0.mk H
   clear H
   have hnb24 := NB120_116.out
   have hnc24 := NB116_120.out
   have hnb25 := NB120_117.out
   have hnc25 := NB117_120.out
   obtain ⟨hcz26_0, hcz26_1⟩ := hc2 BK120.out
   obtain ⟨hfz26_0, hfz26_1⟩ := hf2 BK120.out
   go_wp2
   go_meet
   case rel => exact ⟨_, (false), (by first | rfl | (simp; done) | (simp [*]; done)), H', ⟨by first | omega | exact Nat.le_refl _⟩, ⟨kp BK116.out⟩, ⟨kp (p3_0 (kp BK117.out))⟩, ⟨kp (p2_1 (kp (p2_0 (kp BK120.out))))⟩, ⟨bl HB.out⟩⟩
 case rest =>
  clear HC3
  try clear c1
  try clear p1
  try clear q1
  try clear hx1
  try clear c2
  try clear p2
  try clear c4
  try clear c6
  try clear c10
  try clear c11
  try clear c14
  try clear c14b0
  try clear c15
  try clear c15b0
  try clear c16
  try clear c16b0
  try clear p17
  try clear q17
  try clear hx17
  try clear c18
  try clear c19
  try clear c21
  try clear c22
  try clear c24
  try clear c25
  try clear hcz12_0
  try clear hcz12_1
  try clear hcz13_0
  try clear hcz13_1
  try clear hcz13_2
  try clear hcz20_0
  try clear hcz20_1
  try clear hcz23_0
  try clear hcz23_1
  try clear hcz26_0
  try clear hcz26_1
  try clear hcz7_0
  try clear hcz7_1
  try clear hcz7_2
  try clear hfz12_0
  try clear hfz12_1
  try clear hfz13_0
  try clear hfz13_1
  try clear hfz13_2
  try clear hfz20_0
  try clear hfz20_1
  try clear hfz23_0
  try clear hfz23_1
  try clear hfz26_0
  try clear hfz26_1
  try clear hfz7_0
  try clear hfz7_1
  try clear hfz7_2
  try clear p17
  try clear q17
  obtain ⟨kq, x27_2, rfl, HA, HJ2, BK116, BK117, BK120, HB⟩ := hcut
  cases kq with
  | zero => exact absurd HA.out (by simp [drachmref02_Read.j0])
  | succ kj2 =>
   have H := HA.out
   clear HA
   simp only [drachmref02_Read.j0] at H
   have HC27 := Aside0.mk H
   clear H
   go_upto_if 27 with (fail)
   go_cut [] (fun wc => ∃ (kq : Nat) (x118001_26 : Int) (x121000_26 : Int) (x121001_26 : Int), Aside0 (drachmref02_Read.j1 kq a0 t118 x118001_26 0 x121000_26 x121001_26 = some (r1, r2, r3, r4)) ∧ Aside0 (kq ≤ kj2) ∧ Aside0 (wc.heap[gb116]? = some (.cells #[.int .i64 0, .int .i64 0, .int .i64 0, .int .i64 0] 30 (0, 0))) ∧ Aside0 (wc.heap[gb117]? = some (.cells #[.int .i64 t118, .int .i64 x118001_26, .int .i64 0] 24 (0, 0))) ∧ Aside0 (wc.heap[gb120]? = some (.cells #[.int .i64 x121000_26, .int .i64 x121001_26] 77 (0, 0))) ∧ Aside0 (Below w.heap.size w wc))
   case first =>
    have H := HC27.out
    clear HC27
    by_cases c28 : x27_2 = true
    ·subst c28
     have H1 : ((drachmref02_read.f kj2 a0 (wrap64 (t119 + 1))).bind fun bt121 => (drachmref02_Read.j1 kj2 a0 t118 bt121.1 0 bt121.1 bt121.2)) = some (r1, r2, r3, r4) := by rw [if_pos rfl] at H; exact H
     clear H
     have H := H1
     clear H1
     replace H := Option.bind_eq_some_iff.mp H
     obtain ⟨⟨t121, t122⟩, A290, H⟩ := H
     replace H : (drachmref02_Read.j1 kj2 a0 t118 t121 0 t121 t122) = some (r1, r2, r3, r4) := H
     have A29 := Aside0.mk A290
     clear A290
     have H' := Aside0.mk H
     clear H
     have hnb30 := NB120_116.out
     have hnc30 := NB116_120.out
     have hnb31 := NB120_117.out
     have hnc31 := NB117_120.out
     obtain ⟨hcz32_0, hcz32_1⟩ := hc2 BK120.out
     obtain ⟨hfz32_0, hfz32_1⟩ := hf2 BK120.out
     go_wp2_with (first | ((with_reducible refine gate_callee (f := 42) rfl ?_); refine goesL_ (some 32) rfl rfl Tryd.func42 (by kernel_rfl) rfl #[.string a0, .int .i64 (wrap64 (t119 + 1))] rfl (by (try simp only [List.map_toArray, List.map_cons, List.map_nil]); first | done | rfl | (simp only [List.length_drop, List.length_take]; rfl)) ?_; (with_reducible refine (drachmref02_read.calls kj2 a0 (wrap64 (t119 + 1)) t121 t122 _ A29.out).mono ?_); rintro e w33 ⟨rfl, hb⟩; refine ⟨_, rfl, ?_⟩; replace BK116 := Aside0.mk (blk_below (kp BK116.out) hb); replace BK117 := Aside0.mk (blk_below (kp BK117.out) hb); replace BK120 := Aside0.mk (blk_below (kp BK120.out) hb); replace HB := Aside0.mk (below_step (bl HB.out) hb); (try clear hb); (try clear hb2); (try clear hk); (try clear hi); obtain ⟨hcz34_0, hcz34_1⟩ := hc2 BK120.out; obtain ⟨hfz34_0, hfz34_1⟩ := hf2 BK120.out; have hnb35 := NB117_116.out; have hnc35 := NB116_117.out; obtain ⟨hcz36_0, hcz36_1, hcz36_2⟩ := hc3 BK117.out; obtain ⟨hfz36_0, hfz36_1, hfz36_2⟩ := hf3 BK117.out))
     go_meet
     case rel => exact ⟨_, (t121), (t121), (t122), H', ⟨by have := HJ2.out; first | omega | exact Nat.le_refl _⟩, ⟨kp BK116.out⟩, ⟨kp (p3_1 (kp BK117.out))⟩, ⟨kp (p2_1 (kp (p2_0 (kp BK120.out))))⟩, ⟨bl HB.out⟩⟩
    ·replace c28 := Bool.eq_false_iff.mpr c28
     subst c28
     have H1 : (drachmref02_Read.j1 kj2 a0 t118 1 0 t118 t119) = some (r1, r2, r3, r4) := by rw [if_neg (show ¬ (false = true) by decide)] at H; exact H
     clear H
     have H := H1
     clear H1
     have H' := Aside0.mk H
     clear H
     go_wp2
     go_meet
     case rel => exact ⟨_, (1), (t118), (t119), H', ⟨by have := HJ2.out; first | omega | exact Nat.le_refl _⟩, ⟨kp BK116.out⟩, ⟨kp BK117.out⟩, ⟨kp BK120.out⟩, ⟨bl HB.out⟩⟩
   case rest =>
    clear HC27
    try clear c1
    try clear p1
    try clear q1
    try clear hx1
    try clear c2
    try clear p2
    try clear c3
    try clear c4
    try clear c6
    try clear p6
    try clear c10
    try clear c11
    try clear c14
    try clear c14b0
    try clear c15
    try clear c15b0
    try clear c16
    try clear c16b0
    try clear p17
    try clear q17
    try clear hx17
    try clear c18
    try clear c19
    try clear c21
    try clear c22
    try clear c24
    try clear c25
    try clear c28
    try clear c30
    try clear c31
    try clear c35
    try clear hcz12_0
    try clear hcz12_1
    try clear hcz13_0
    try clear hcz13_1
    try clear hcz13_2
    try clear hcz20_0
    try clear hcz20_1
    try clear hcz23_0
    try clear hcz23_1
    try clear hcz26_0
    try clear hcz26_1
    try clear hcz32_0
    try clear hcz32_1
    try clear hcz34_0
    try clear hcz34_1
    try clear hcz36_0
    try clear hcz36_1
    try clear hcz36_2
    try clear hcz7_0
    try clear hcz7_1
    try clear hcz7_2
    try clear hfz12_0
    try clear hfz12_1
    try clear hfz13_0
    try clear hfz13_1
    try clear hfz13_2
    try clear hfz20_0
    try clear hfz20_1
    try clear hfz23_0
    try clear hfz23_1
    try clear hfz26_0
    try clear hfz26_1
    try clear hfz32_0
    try clear hfz32_1
    try clear hfz34_0
    try clear hfz34_1
    try clear hfz36_0
    try clear hfz36_1
    try clear hfz36_2
    try clear hfz7_0
    try clear hfz7_1
    try clear hfz7_2
    try clear p1
    try clear p17
    try clear p2
    try clear q1
    try clear q17
    obtain ⟨kq, x118001_26, x121000_26, x121001_26, HA, HJ26, BK116, BK117, BK120, HB⟩ := hcut
    cases kq with
    | zero => exact absurd HA.out (by simp [drachmref02_Read.j1])
    | succ kj26 =>
     have H := HA.out
     clear HA
     simp only [drachmref02_Read.j1] at H
     have HC37 := Aside0.mk H
     clear H
     go_upto_region 7 with (fail)
     go_cut [52] (fun v52 wc => ∃ (kq : Nat) (x52_36 : Bool), v52 = .bool x52_36 ∧ Aside0 (drachmref02_Read.j2 kq a0 x52_36 t118 x118001_26 0 x121000_26 x121001_26 = some (r1, r2, r3, r4)) ∧ Aside0 (kq ≤ kj26) ∧ Aside0 (wc.heap[gb116]? = some (.cells #[.int .i64 0, .int .i64 0, .int .i64 0, .int .i64 0] 30 (0, 0))) ∧ Aside0 (wc.heap[gb117]? = some (.cells #[.int .i64 t118, .int .i64 x118001_26, .int .i64 0] 24 (0, 0))) ∧ Aside0 (wc.heap[gb120]? = some (.cells #[.int .i64 x121000_26, .int .i64 x121001_26] 77 (0, 0))) ∧ Aside0 (Below w.heap.size w wc))
     case first =>
      have H := HC37.out
      clear HC37
      by_cases c38 : x121001_26 ≥ 0
      ·rw [if_pos c38] at H
       have c38b0 : decide (0 ≤ x121001_26) = true := decide_eq_true c38
       clear c38
       (first | rw [c38b0] | (simp only [i64_w, i32_w]; rw [c38b0]) | skip)
       by_cases c39 : x121001_26 < (a0.size : Int)
       ·rw [if_pos c39] at H
        have c39b0 : decide (x121001_26 < (a0.size : Int)) = true := decide_eq_true c39
        clear c39
        by_cases c40 : 0 ≤ x121001_26
        ·rw [if_pos c40] at H
         have c40b0 : decide (0 ≤ x121001_26) = true := decide_eq_true c40
         clear c40
         have H' := Aside0.mk H
         clear H
         have hnb42 := NB120_116.out
         have hnc42 := NB116_120.out
         have hnb43 := NB120_117.out
         have hnc43 := NB117_120.out
         obtain ⟨hcz44_0, hcz44_1⟩ := hc2 BK120.out
         obtain ⟨hfz44_0, hfz44_1⟩ := hf2 BK120.out
         have p41 : 0 ≤ (x121001_26 : Int) := of_decide_eq_true (by first | (with_reducible assumption) | assumption)
         have q41 : x121001_26 < (a0.size : Int) := of_decide_eq_true (by first | (with_reducible assumption) | assumption)
         have hx41 := bt_at a0 x121001_26
         replace p41 := eq_true p41
         replace q41 := eq_true q41
         go_wp2
         go_meet
         case rel => exact ⟨_, (((bt a0 x121001_26) == 101)), (by first | rfl | (simp; done) | (simp [*]; done)), H', ⟨by have := HJ2.out; have := HJ26.out; first | omega | exact Nat.le_refl _⟩, ⟨kp BK116.out⟩, ⟨kp BK117.out⟩, ⟨kp BK120.out⟩, ⟨bl HB.out⟩⟩
        ·rw [if_neg c40] at H
         exact absurd H (by simp)
       ·rw [if_neg c39] at H
        have c39b0 : decide (x121001_26 < (a0.size : Int)) = false := decide_eq_false c39
        clear c39
        have H' := Aside0.mk H
        clear H
        have hnb45 := NB120_116.out
        have hnc45 := NB116_120.out
        have hnb46 := NB120_117.out
        have hnc46 := NB117_120.out
        obtain ⟨hcz47_0, hcz47_1⟩ := hc2 BK120.out
        obtain ⟨hfz47_0, hfz47_1⟩ := hf2 BK120.out
        go_wp2
        go_meet
        case rel => exact ⟨_, (false), (by first | rfl | (simp; done) | (simp [*]; done)), H', ⟨by have := HJ2.out; have := HJ26.out; first | omega | exact Nat.le_refl _⟩, ⟨kp BK116.out⟩, ⟨kp BK117.out⟩, ⟨kp BK120.out⟩, ⟨bl HB.out⟩⟩
      ·rw [if_neg c38] at H
       have c38b0 : decide (0 ≤ x121001_26) = false := decide_eq_false c38
       clear c38
       (first | rw [c38b0] | (simp only [i64_w, i32_w]; rw [c38b0]) | skip)
       have H' := Aside0.mk H
       clear H
       have hnb48 := NB120_116.out
       have hnc48 := NB116_120.out
       have hnb49 := NB120_117.out
       have hnc49 := NB117_120.out
       obtain ⟨hcz50_0, hcz50_1⟩ := hc2 BK120.out
       obtain ⟨hfz50_0, hfz50_1⟩ := hf2 BK120.out
       go_wp2
       go_meet
       case rel => exact ⟨_, (false), (by first | rfl | (simp; done) | (simp [*]; done)), H', ⟨by have := HJ2.out; have := HJ26.out; first | omega | exact Nat.le_refl _⟩, ⟨kp BK116.out⟩, ⟨kp BK117.out⟩, ⟨kp BK120.out⟩, ⟨bl HB.out⟩⟩
     case rest =>
      clear HC37
      try clear c1
      try clear p1
      try clear q1
      try clear hx1
      try clear c2
      try clear p2
      try clear c3
      try clear c4
      try clear p4
      try clear q4
      try clear hx4
      try clear c6
      try clear p6
      try clear c10
      try clear c11
      try clear c14
      try clear c14b0
      try clear c15
      try clear c15b0
      try clear c16
      try clear c16b0
      try clear p17
      try clear q17
      try clear hx17
      try clear c18
      try clear c19
      try clear c21
      try clear c22
      try clear c24
      try clear c25
      try clear c28
      try clear c30
      try clear c31
      try clear c35
      try clear c38
      try clear c38b0
      try clear c39
      try clear c39b0
      try clear c40
      try clear c40b0
      try clear p41
      try clear q41
      try clear hx41
      try clear c42
      try clear c43
      try clear c45
      try clear c46
      try clear c48
      try clear c49
      try clear hcz12_0
      try clear hcz12_1
      try clear hcz13_0
      try clear hcz13_1
      try clear hcz13_2
      try clear hcz20_0
      try clear hcz20_1
      try clear hcz23_0
      try clear hcz23_1
      try clear hcz26_0
      try clear hcz26_1
      try clear hcz32_0
      try clear hcz32_1
      try clear hcz34_0
      try clear hcz34_1
      try clear hcz36_0
      try clear hcz36_1
      try clear hcz36_2
      try clear hcz44_0
      try clear hcz44_1
      try clear hcz47_0
      try clear hcz47_1
      try clear hcz50_0
      try clear hcz50_1
      try clear hcz7_0
      try clear hcz7_1
      try clear hcz7_2
      try clear hfz12_0
      try clear hfz12_1
      try clear hfz13_0
      try clear hfz13_1
      try clear hfz13_2
      try clear hfz20_0
      try clear hfz20_1
      try clear hfz23_0
      try clear hfz23_1
      try clear hfz26_0
      try clear hfz26_1
      try clear hfz32_0
      try clear hfz32_1
      try clear hfz34_0
      try clear hfz34_1
      try clear hfz36_0
      try clear hfz36_1
      try clear hfz36_2
      try clear hfz44_0
      try clear hfz44_1
      try clear hfz47_0
      try clear hfz47_1
      try clear hfz50_0
      try clear hfz50_1
      try clear hfz7_0
      try clear hfz7_1
      try clear hfz7_2
      try clear p1
      try clear p17
      try clear p2
      try clear p41
      try clear p6
      try clear q1
      try clear q17
      try clear q41
      obtain ⟨kq, x52_36, rfl, HA, HJ36, BK116, BK117, BK120, HB⟩ := hcut
      cases kq with
      | zero => exact absurd HA.out (by simp [drachmref02_Read.j2])
      | succ kj36 =>
       have H := HA.out
       clear HA
       simp only [drachmref02_Read.j2] at H
       by_cases c51 : x52_36 = true
       ·subst c51
        have H1 : ((drachmref02_read.f kj36 a0 (wrap64 (x121001_26 + 1))).bind fun bt123 => (if bt123.2 = (a0.size : Int) then (if (a0.size : Int) = 0 then (some (0, 0, 0, 20)) else ((drachmref02_Text.f kj36 t118 x118001_26 bt123.1).bind fun t125 => (if t125.toList = a0.toList then (some (t118, x118001_26, bt123.1, 0)) else (some (0, 0, 0, 20))))) else (some (0, 0, 0, 20)))) = some (r1, r2, r3, r4) := by rw [if_pos rfl] at H; exact H
        clear H
        have H := H1
        clear H1
        replace H := Option.bind_eq_some_iff.mp H
        obtain ⟨⟨t123, t124⟩, A520, H⟩ := H
        replace H : (if t124 = (a0.size : Int) then (if (a0.size : Int) = 0 then (some (0, 0, 0, 20)) else ((drachmref02_Text.f kj36 t118 x118001_26 t123).bind fun t125 => (if t125.toList = a0.toList then (some (t118, x118001_26, t123, 0)) else (some (0, 0, 0, 20))))) else (some (0, 0, 0, 20))) = some (r1, r2, r3, r4) := H
        have A52 := Aside0.mk A520
        clear A520
        by_cases c53 : t124 = (a0.size : Int)
        ·rw [if_pos c53] at H
         have c53b0 : (t124 == (a0.size : Int)) = true := beq_iff_eq.mpr c53
         have c53b1 : (t124 != (a0.size : Int)) = false := bne_eq_false_iff_eq.mpr c53
         clear c53
         by_cases c54 : (a0.size : Int) = 0
         ·rw [if_pos c54] at H
          have c54b0 : ((a0.size : Int) == 0) = true := beq_iff_eq.mpr c54
          have c54b1 : ((a0.size : Int) != 0) = false := bne_eq_false_iff_eq.mpr c54
          clear c54
          simp only [Option.some.injEq, Prod.mk.injEq] at H
          obtain ⟨rfl, rfl, rfl, rfl⟩ := H
          have hnb55 := NB120_116.out
          have hnc55 := NB116_120.out
          have hnb56 := NB120_117.out
          have hnc56 := NB117_120.out
          obtain ⟨hcz57_0, hcz57_1⟩ := hc2 BK120.out
          obtain ⟨hfz57_0, hfz57_1⟩ := hf2 BK120.out
          go_wp2_with (first | ((with_reducible refine gate_callee (f := 42) rfl ?_); refine goesL_ (some 57) rfl rfl Tryd.func42 (by kernel_rfl) rfl #[.string a0, .int .i64 (wrap64 (x121001_26 + 1))] rfl (by (try simp only [List.map_toArray, List.map_cons, List.map_nil]); first | done | rfl | (simp only [List.length_drop, List.length_take]; rfl)) ?_; (with_reducible refine (drachmref02_read.calls kj36 a0 (wrap64 (x121001_26 + 1)) t123 t124 _ A52.out).mono ?_); rintro e w58 ⟨rfl, hb⟩; refine ⟨_, rfl, ?_⟩; replace BK116 := Aside0.mk (blk_below (kp BK116.out) hb); replace BK117 := Aside0.mk (blk_below (kp BK117.out) hb); replace BK120 := Aside0.mk (blk_below (kp BK120.out) hb); replace HB := Aside0.mk (below_step (bl HB.out) hb); (try clear hb); (try clear hb2); (try clear hk); (try clear hi); obtain ⟨hcz59_0, hcz59_1⟩ := hc2 BK120.out; obtain ⟨hfz59_0, hfz59_1⟩ := hf2 BK120.out; have hnb60 := NB117_116.out; have hnc60 := NB116_117.out; obtain ⟨hcz61_0, hcz61_1, hcz61_2⟩ := hc3 BK117.out; obtain ⟨hfz61_0, hfz61_1, hfz61_2⟩ := hf3 BK117.out; obtain ⟨hcz62_0, hcz62_1, hcz62_2, hcz62_3⟩ := hc4 BK116.out; obtain ⟨hfz62_0, hfz62_1, hfz62_2, hfz62_3⟩ := hf4 BK116.out))
          refine bodyPost_ret (results_cell_row rfl _ _ gb116 30 #[.int .i64 0, .int .i64 0, .int .i64 0, .int .i64 20] (0, 0) _ rfl (kp (p4_3 (kp (p4_2 (kp (p4_1 (kp (p4_0 (kp BK116.out))))))))) Tryd.underlying30 rfl (by kernel_rfl)) rfl ?_
          exact ⟨by first | rfl | (simp [errW_none, errW_some] <;> rfl) | (simp [*, errW_none, errW_some] <;> rfl), bl HB.out⟩
         ·rw [if_neg c54] at H
          have c54b0 : ((a0.size : Int) == 0) = false := beq_eq_false_iff_ne.mpr c54
          have c54b1 : ((a0.size : Int) != 0) = true := bne_iff_ne.mpr c54
          replace H := Option.bind_eq_some_iff.mp H
          obtain ⟨t125, A630, H⟩ := H
          replace H : (if t125.toList = a0.toList then (some (t118, x118001_26, t123, 0)) else (some (0, 0, 0, 20))) = some (r1, r2, r3, r4) := H
          have A63 := Aside0.mk A630
          clear A630
          by_cases c64 : t125.toList = a0.toList
          ·rw [if_pos c64] at H
           have c64b0 : (t125.toList == a0.toList) = true := beq_iff_eq.mpr c64
           have c64b1 : (t125.toList != a0.toList) = false := bne_eq_false_iff_eq.mpr c64
           clear c64
           simp only [Option.some.injEq, Prod.mk.injEq] at H
           obtain ⟨rfl, rfl, rfl, rfl⟩ := H
           have hnb65 := NB120_116.out
           have hnc65 := NB116_120.out
           have hnb66 := NB120_117.out
           have hnc66 := NB117_120.out
           obtain ⟨hcz67_0, hcz67_1⟩ := hc2 BK120.out
           obtain ⟨hfz67_0, hfz67_1⟩ := hf2 BK120.out
           go_wp2_with (first | ((with_reducible refine gate_callee (f := 42) rfl ?_); refine goesL_ (some 57) rfl rfl Tryd.func42 (by kernel_rfl) rfl #[.string a0, .int .i64 (wrap64 (x121001_26 + 1))] rfl (by (try simp only [List.map_toArray, List.map_cons, List.map_nil]); first | done | rfl | (simp only [List.length_drop, List.length_take]; rfl)) ?_; (with_reducible refine (drachmref02_read.calls kj36 a0 (wrap64 (x121001_26 + 1)) t123 t124 _ A52.out).mono ?_); rintro e w68 ⟨rfl, hb⟩; refine ⟨_, rfl, ?_⟩; replace BK116 := Aside0.mk (blk_below (kp BK116.out) hb); replace BK117 := Aside0.mk (blk_below (kp BK117.out) hb); replace BK120 := Aside0.mk (blk_below (kp BK120.out) hb); replace HB := Aside0.mk (below_step (bl HB.out) hb); (try clear hb); (try clear hb2); (try clear hk); (try clear hi); obtain ⟨hcz69_0, hcz69_1⟩ := hc2 BK120.out; obtain ⟨hfz69_0, hfz69_1⟩ := hf2 BK120.out; have hnb70 := NB117_116.out; have hnc70 := NB116_117.out; obtain ⟨hcz71_0, hcz71_1, hcz71_2⟩ := hc3 BK117.out; obtain ⟨hfz71_0, hfz71_1, hfz71_2⟩ := hf3 BK117.out) | (go_at_call 23; (with_reducible refine (drachmref02_Text.calls kj36 t118 x118001_26 t123 t125 _ A63.out).mono ?_); rintro e w72 ⟨rfl, hb⟩; replace BK116 := Aside0.mk (blk_below (kp BK116.out) hb); replace BK117 := Aside0.mk (blk_below (kp (p3_2 (kp BK117.out))) hb); replace BK120 := Aside0.mk (blk_below (kp (p2_1 (kp (p2_0 (kp BK120.out))))) hb); replace HB := Aside0.mk (below_step (bl HB.out) hb); (try clear hb); (try clear hb2); (try clear hk); (try clear hi); obtain ⟨hcz73_0, hcz73_1, hcz73_2⟩ := hc3 BK117.out; obtain ⟨hfz73_0, hfz73_1, hfz73_2⟩ := hf3 BK117.out; obtain ⟨hcz74_0, hcz74_1, hcz74_2, hcz74_3⟩ := hc4 BK116.out; obtain ⟨hfz74_0, hfz74_1, hfz74_2, hfz74_3⟩ := hf4 BK116.out))
           refine bodyPost_ret (results_cell_row rfl _ _ gb116 30 #[.int .i64 t118, .int .i64 x118001_26, .int .i64 t123, .int .i64 0] (0, 0) _ rfl (kp (p4_3 (kp (p4_2 (kp (p4_1 (kp (p4_0 (kp BK116.out))))))))) Tryd.underlying30 rfl (by kernel_rfl)) rfl ?_
           exact ⟨by first | rfl | (simp [errW_none, errW_some] <;> rfl) | (simp [*, errW_none, errW_some] <;> rfl), bl HB.out⟩
          ·rw [if_neg c64] at H
           have c64b0 : (t125.toList == a0.toList) = false := beq_eq_false_iff_ne.mpr c64
           have c64b1 : (t125.toList != a0.toList) = true := bne_iff_ne.mpr c64
           simp only [Option.some.injEq, Prod.mk.injEq] at H
           obtain ⟨rfl, rfl, rfl, rfl⟩ := H
           have hnb75 := NB120_116.out
           have hnc75 := NB116_120.out
           have hnb76 := NB120_117.out
           have hnc76 := NB117_120.out
           obtain ⟨hcz77_0, hcz77_1⟩ := hc2 BK120.out
           obtain ⟨hfz77_0, hfz77_1⟩ := hf2 BK120.out
           go_wp2_with (first | ((with_reducible refine gate_callee (f := 42) rfl ?_); refine goesL_ (some 57) rfl rfl Tryd.func42 (by kernel_rfl) rfl #[.string a0, .int .i64 (wrap64 (x121001_26 + 1))] rfl (by (try simp only [List.map_toArray, List.map_cons, List.map_nil]); first | done | rfl | (simp only [List.length_drop, List.length_take]; rfl)) ?_; (with_reducible refine (drachmref02_read.calls kj36 a0 (wrap64 (x121001_26 + 1)) t123 t124 _ A52.out).mono ?_); rintro e w78 ⟨rfl, hb⟩; refine ⟨_, rfl, ?_⟩; replace BK116 := Aside0.mk (blk_below (kp BK116.out) hb); replace BK117 := Aside0.mk (blk_below (kp BK117.out) hb); replace BK120 := Aside0.mk (blk_below (kp BK120.out) hb); replace HB := Aside0.mk (below_step (bl HB.out) hb); (try clear hb); (try clear hb2); (try clear hk); (try clear hi); obtain ⟨hcz79_0, hcz79_1⟩ := hc2 BK120.out; obtain ⟨hfz79_0, hfz79_1⟩ := hf2 BK120.out; have hnb80 := NB117_116.out; have hnc80 := NB116_117.out; obtain ⟨hcz81_0, hcz81_1, hcz81_2⟩ := hc3 BK117.out; obtain ⟨hfz81_0, hfz81_1, hfz81_2⟩ := hf3 BK117.out) | (go_at_call 23; (with_reducible refine (drachmref02_Text.calls kj36 t118 x118001_26 t123 t125 _ A63.out).mono ?_); rintro e w82 ⟨rfl, hb⟩; replace BK116 := Aside0.mk (blk_below (kp BK116.out) hb); replace BK117 := Aside0.mk (blk_below (kp (p3_2 (kp BK117.out))) hb); replace BK120 := Aside0.mk (blk_below (kp (p2_1 (kp (p2_0 (kp BK120.out))))) hb); replace HB := Aside0.mk (below_step (bl HB.out) hb); (try clear hb); (try clear hb2); (try clear hk); (try clear hi); obtain ⟨hcz83_0, hcz83_1, hcz83_2, hcz83_3⟩ := hc4 BK116.out; obtain ⟨hfz83_0, hfz83_1, hfz83_2, hfz83_3⟩ := hf4 BK116.out))
           refine bodyPost_ret (results_cell_row rfl _ _ gb116 30 #[.int .i64 0, .int .i64 0, .int .i64 0, .int .i64 20] (0, 0) _ rfl (kp (p4_3 (kp (p4_2 (kp (p4_1 (kp (p4_0 (kp BK116.out))))))))) Tryd.underlying30 rfl (by kernel_rfl)) rfl ?_
           exact ⟨by first | rfl | (simp [errW_none, errW_some] <;> rfl) | (simp [*, errW_none, errW_some] <;> rfl), bl HB.out⟩
        ·rw [if_neg c53] at H
         have c53b0 : (t124 == (a0.size : Int)) = false := beq_eq_false_iff_ne.mpr c53
         have c53b1 : (t124 != (a0.size : Int)) = true := bne_iff_ne.mpr c53
         simp only [Option.some.injEq, Prod.mk.injEq] at H
         obtain ⟨rfl, rfl, rfl, rfl⟩ := H
         have hnb84 := NB120_116.out
         have hnc84 := NB116_120.out
         have hnb85 := NB120_117.out
         have hnc85 := NB117_120.out
         obtain ⟨hcz86_0, hcz86_1⟩ := hc2 BK120.out
         obtain ⟨hfz86_0, hfz86_1⟩ := hf2 BK120.out
         go_wp2_with (first | ((with_reducible refine gate_callee (f := 42) rfl ?_); refine goesL_ (some 57) rfl rfl Tryd.func42 (by kernel_rfl) rfl #[.string a0, .int .i64 (wrap64 (x121001_26 + 1))] rfl (by (try simp only [List.map_toArray, List.map_cons, List.map_nil]); first | done | rfl | (simp only [List.length_drop, List.length_take]; rfl)) ?_; (with_reducible refine (drachmref02_read.calls kj36 a0 (wrap64 (x121001_26 + 1)) t123 t124 _ A52.out).mono ?_); rintro e w87 ⟨rfl, hb⟩; refine ⟨_, rfl, ?_⟩; replace BK116 := Aside0.mk (blk_below (kp BK116.out) hb); replace BK117 := Aside0.mk (blk_below (kp BK117.out) hb); replace BK120 := Aside0.mk (blk_below (kp BK120.out) hb); replace HB := Aside0.mk (below_step (bl HB.out) hb); (try clear hb); (try clear hb2); (try clear hk); (try clear hi); obtain ⟨hcz88_0, hcz88_1⟩ := hc2 BK120.out; obtain ⟨hfz88_0, hfz88_1⟩ := hf2 BK120.out; have hnb89 := NB117_116.out; have hnc89 := NB116_117.out; obtain ⟨hcz90_0, hcz90_1, hcz90_2⟩ := hc3 BK117.out; obtain ⟨hfz90_0, hfz90_1, hfz90_2⟩ := hf3 BK117.out; obtain ⟨hcz91_0, hcz91_1, hcz91_2, hcz91_3⟩ := hc4 BK116.out; obtain ⟨hfz91_0, hfz91_1, hfz91_2, hfz91_3⟩ := hf4 BK116.out))
         refine bodyPost_ret (results_cell_row rfl _ _ gb116 30 #[.int .i64 0, .int .i64 0, .int .i64 0, .int .i64 20] (0, 0) _ rfl (kp (p4_3 (kp (p4_2 (kp (p4_1 (kp (p4_0 (kp BK116.out))))))))) Tryd.underlying30 rfl (by kernel_rfl)) rfl ?_
         exact ⟨by first | rfl | (simp [errW_none, errW_some] <;> rfl) | (simp [*, errW_none, errW_some] <;> rfl), bl HB.out⟩
       ·replace c51 := Bool.eq_false_iff.mpr c51
        subst c51
        have H1 : (if x121001_26 = (a0.size : Int) then (if (a0.size : Int) = 0 then (some (0, 0, 0, 20)) else ((drachmref02_Text.f kj36 t118 x118001_26 0).bind fun t126 => (if t126.toList = a0.toList then (some (t118, x118001_26, 0, 0)) else (some (0, 0, 0, 20))))) else (some (0, 0, 0, 20))) = some (r1, r2, r3, r4) := by rw [if_neg (show ¬ (false = true) by decide)] at H; exact H
        clear H
        have H := H1
        clear H1
        by_cases c92 : x121001_26 = (a0.size : Int)
        ·rw [if_pos c92] at H
         have c92b0 : (x121001_26 == (a0.size : Int)) = true := beq_iff_eq.mpr c92
         have c92b1 : (x121001_26 != (a0.size : Int)) = false := bne_eq_false_iff_eq.mpr c92
         clear c92
         by_cases c93 : (a0.size : Int) = 0
         ·rw [if_pos c93] at H
          have c93b0 : ((a0.size : Int) == 0) = true := beq_iff_eq.mpr c93
          have c93b1 : ((a0.size : Int) != 0) = false := bne_eq_false_iff_eq.mpr c93
          clear c93
          simp only [Option.some.injEq, Prod.mk.injEq] at H
          obtain ⟨rfl, rfl, rfl, rfl⟩ := H
          have hnb94 := NB120_116.out
          have hnc94 := NB116_120.out
          have hnb95 := NB120_117.out
          have hnc95 := NB117_120.out
          obtain ⟨hcz96_0, hcz96_1⟩ := hc2 BK120.out
          obtain ⟨hfz96_0, hfz96_1⟩ := hf2 BK120.out
          have hnb97 := NB116_117.out
          have hnc97 := NB117_116.out
          obtain ⟨hcz98_0, hcz98_1, hcz98_2, hcz98_3⟩ := hc4 BK116.out
          obtain ⟨hfz98_0, hfz98_1, hfz98_2, hfz98_3⟩ := hf4 BK116.out
          go_wp2
          refine bodyPost_ret (results_cell_row rfl _ _ gb116 30 #[.int .i64 0, .int .i64 0, .int .i64 0, .int .i64 20] (0, 0) _ rfl (kp (p4_3 (kp (p4_2 (kp (p4_1 (kp (p4_0 (kp BK116.out))))))))) Tryd.underlying30 rfl (by kernel_rfl)) rfl ?_
          exact ⟨by first | rfl | (simp [errW_none, errW_some] <;> rfl) | (simp [*, errW_none, errW_some] <;> rfl), bl HB.out⟩
         ·rw [if_neg c93] at H
          have c93b0 : ((a0.size : Int) == 0) = false := beq_eq_false_iff_ne.mpr c93
          have c93b1 : ((a0.size : Int) != 0) = true := bne_iff_ne.mpr c93
          replace H := Option.bind_eq_some_iff.mp H
          obtain ⟨t126, A990, H⟩ := H
          replace H : (if t126.toList = a0.toList then (some (t118, x118001_26, 0, 0)) else (some (0, 0, 0, 20))) = some (r1, r2, r3, r4) := H
          have A99 := Aside0.mk A990
          clear A990
          by_cases c100 : t126.toList = a0.toList
          ·rw [if_pos c100] at H
           have c100b0 : (t126.toList == a0.toList) = true := beq_iff_eq.mpr c100
           have c100b1 : (t126.toList != a0.toList) = false := bne_eq_false_iff_eq.mpr c100
           clear c100
           simp only [Option.some.injEq, Prod.mk.injEq] at H
           obtain ⟨rfl, rfl, rfl, rfl⟩ := H
           have hnb101 := NB120_116.out
           have hnc101 := NB116_120.out
           have hnb102 := NB120_117.out
           have hnc102 := NB117_120.out
           obtain ⟨hcz103_0, hcz103_1⟩ := hc2 BK120.out
           obtain ⟨hfz103_0, hfz103_1⟩ := hf2 BK120.out
           have hnb104 := NB117_116.out
           have hnc104 := NB116_117.out
           obtain ⟨hcz105_0, hcz105_1, hcz105_2⟩ := hc3 BK117.out
           obtain ⟨hfz105_0, hfz105_1, hfz105_2⟩ := hf3 BK117.out
           go_wp2_with (first | (go_at_call 23; (with_reducible refine (drachmref02_Text.calls kj36 t118 x118001_26 0 t126 _ A99.out).mono ?_); rintro e w106 ⟨rfl, hb⟩; replace BK116 := Aside0.mk (blk_below (kp BK116.out) hb); replace BK117 := Aside0.mk (blk_below (kp BK117.out) hb); replace BK120 := Aside0.mk (blk_below (kp BK120.out) hb); replace HB := Aside0.mk (below_step (bl HB.out) hb); (try clear hb); (try clear hb2); (try clear hk); (try clear hi); obtain ⟨hcz107_0, hcz107_1, hcz107_2⟩ := hc3 BK117.out; obtain ⟨hfz107_0, hfz107_1, hfz107_2⟩ := hf3 BK117.out; obtain ⟨hcz108_0, hcz108_1, hcz108_2, hcz108_3⟩ := hc4 BK116.out; obtain ⟨hfz108_0, hfz108_1, hfz108_2, hfz108_3⟩ := hf4 BK116.out))
           refine bodyPost_ret (results_cell_row rfl _ _ gb116 30 #[.int .i64 t118, .int .i64 x118001_26, .int .i64 0, .int .i64 0] (0, 0) _ rfl (kp (p4_3 (kp (p4_2 (kp (p4_1 (kp (p4_0 (kp BK116.out))))))))) Tryd.underlying30 rfl (by kernel_rfl)) rfl ?_
           exact ⟨by first | rfl | (simp [errW_none, errW_some] <;> rfl) | (simp [*, errW_none, errW_some] <;> rfl), bl HB.out⟩
          ·rw [if_neg c100] at H
           have c100b0 : (t126.toList == a0.toList) = false := beq_eq_false_iff_ne.mpr c100
           have c100b1 : (t126.toList != a0.toList) = true := bne_iff_ne.mpr c100
           simp only [Option.some.injEq, Prod.mk.injEq] at H
           obtain ⟨rfl, rfl, rfl, rfl⟩ := H
           have hnb109 := NB120_116.out
           have hnc109 := NB116_120.out
           have hnb110 := NB120_117.out
           have hnc110 := NB117_120.out
           obtain ⟨hcz111_0, hcz111_1⟩ := hc2 BK120.out
           obtain ⟨hfz111_0, hfz111_1⟩ := hf2 BK120.out
           have hnb112 := NB117_116.out
           have hnc112 := NB116_117.out
           obtain ⟨hcz113_0, hcz113_1, hcz113_2⟩ := hc3 BK117.out
           obtain ⟨hfz113_0, hfz113_1, hfz113_2⟩ := hf3 BK117.out
           go_wp2_with (first | (go_at_call 23; (with_reducible refine (drachmref02_Text.calls kj36 t118 x118001_26 0 t126 _ A99.out).mono ?_); rintro e w114 ⟨rfl, hb⟩; replace BK116 := Aside0.mk (blk_below (kp BK116.out) hb); replace BK117 := Aside0.mk (blk_below (kp BK117.out) hb); replace BK120 := Aside0.mk (blk_below (kp BK120.out) hb); replace HB := Aside0.mk (below_step (bl HB.out) hb); (try clear hb); (try clear hb2); (try clear hk); (try clear hi); obtain ⟨hcz115_0, hcz115_1, hcz115_2, hcz115_3⟩ := hc4 BK116.out; obtain ⟨hfz115_0, hfz115_1, hfz115_2, hfz115_3⟩ := hf4 BK116.out))
           refine bodyPost_ret (results_cell_row rfl _ _ gb116 30 #[.int .i64 0, .int .i64 0, .int .i64 0, .int .i64 20] (0, 0) _ rfl (kp (p4_3 (kp (p4_2 (kp (p4_1 (kp (p4_0 (kp BK116.out))))))))) Tryd.underlying30 rfl (by kernel_rfl)) rfl ?_
           exact ⟨by first | rfl | (simp [errW_none, errW_some] <;> rfl) | (simp [*, errW_none, errW_some] <;> rfl), bl HB.out⟩
        ·rw [if_neg c92] at H
         have c92b0 : (x121001_26 == (a0.size : Int)) = false := beq_eq_false_iff_ne.mpr c92
         have c92b1 : (x121001_26 != (a0.size : Int)) = true := bne_iff_ne.mpr c92
         simp only [Option.some.injEq, Prod.mk.injEq] at H
         obtain ⟨rfl, rfl, rfl, rfl⟩ := H
         have hnb116 := NB120_116.out
         have hnc116 := NB116_120.out
         have hnb117 := NB120_117.out
         have hnc117 := NB117_120.out
         obtain ⟨hcz118_0, hcz118_1⟩ := hc2 BK120.out
         obtain ⟨hfz118_0, hfz118_1⟩ := hf2 BK120.out
         have hnb119 := NB116_117.out
         have hnc119 := NB117_116.out
         obtain ⟨hcz120_0, hcz120_1, hcz120_2, hcz120_3⟩ := hc4 BK116.out
         obtain ⟨hfz120_0, hfz120_1, hfz120_2, hfz120_3⟩ := hf4 BK116.out
         go_wp2
         refine bodyPost_ret (results_cell_row rfl _ _ gb116 30 #[.int .i64 0, .int .i64 0, .int .i64 0, .int .i64 20] (0, 0) _ rfl (kp (p4_3 (kp (p4_2 (kp (p4_1 (kp (p4_0 (kp BK116.out))))))))) Tryd.underlying30 rfl (by kernel_rfl)) rfl ?_
         exact ⟨by first | rfl | (simp [errW_none, errW_some] <;> rfl) | (simp [*, errW_none, errW_some] <;> rfl), bl HB.out⟩

end Go.Proofs.YtnndaackjgnhhaaDoor.PE
