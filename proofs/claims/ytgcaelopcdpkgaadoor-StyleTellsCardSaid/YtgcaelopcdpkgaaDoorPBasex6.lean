/- Printed by a program of this session (wip/tools/prt.py) out of the translation: plain functions, and that the calls come to just them. No conditions beyond those that stand in each theorem. -/
import Derived.Test.YtgcaelopcdpkgaaDoorGlob
import Derived.Test.YtgcaelopcdpkgaaDoorPBasex0
namespace Go.Proofs.YtgcaelopcdpkgaaDoor.PBase
open Go.RowKit Go.Proofs.YtgcaelopcdpkgaaDoorW.PrintWords Go.Proofs.YtgcaelopcdpkgaaDoorW.PrintLast Go.Proofs.YtgcaelopcdpkgaaDoorW.PrintMore
attribute [local go_sem] max2_int min2_int max_two min_two max_three min_three max_four min_four   -- for this text's walks alone
set_option linter.unusedVariables false
set_option linter.unusedSimpArgs false

/-! ### style_Kind: function 10 -/
mutual
def style_Kind.j0 : Nat → Int → Bool → Bool → Int → Int → Int → Int → Int → Option (Int)
  | 0, _, _, _, _, _, _, _, _ => none
  | k + 1, x1, x17, x142000, x142001, x142002, x142003, x142004, x142005 => if x17 = true then (some 0) else (if 97 ≤ x1 then (style_Kind.j1 k x1 (decide (x1 ≤ 122)) x142000 x142001 x142002 x142003 x142004 x142005) else (style_Kind.j1 k x1 false x142000 x142001 x142002 x142003 x142004 x142005))
def style_Kind.j4 : Nat → Int → Bool → Int → Int → Int → Int → Int → Option (Int)
  | 0, _, _, _, _, _, _, _ => none
  | k + 1, x1, x142000, x142001, x142002, x142003, x142004, x142005 => if x1 = 43 then (style_Kind.j5 k x1 (x1 == 43) x142000 x142001 x142002 x142003 x142004 x142005) else (style_Kind.j5 k x1 (x1 == 45) x142000 x142001 x142002 x142003 x142004 x142005)
def style_Kind.j5 : Nat → Int → Bool → Bool → Int → Int → Int → Int → Int → Option (Int)
  | 0, _, _, _, _, _, _, _, _ => none
  | k + 1, x42, x43, x142000, x142001, x142002, x142003, x142004, x142005 => if x43 = true then (some 3) else (if x42 = 40 then (some 7) else (if x42 = 41 then (some 8) else (if x42 = x142001 then (some 4) else (if x42 = x142002 then (some 5) else (if x42 = x142003 then (some 6) else (if x42 = x142004 then (some 9) else (if x42 = x142005 then (some 10) else (some 0))))))))
def style_Kind.j1 : Nat → Int → Bool → Bool → Int → Int → Int → Int → Int → Option (Int)
  | 0, _, _, _, _, _, _, _, _ => none
  | k + 1, x1, x18, x142000, x142001, x142002, x142003, x142004, x142005 => if x18 = true then (some 1) else (if 65 ≤ x1 then (style_Kind.j2 k x1 (decide (x1 ≤ 90)) x142000 x142001 x142002 x142003 x142004 x142005) else (style_Kind.j2 k x1 false x142000 x142001 x142002 x142003 x142004 x142005))
def style_Kind.j2 : Nat → Int → Bool → Bool → Int → Int → Int → Int → Int → Option (Int)
  | 0, _, _, _, _, _, _, _, _ => none
  | k + 1, x1, x25, x142000, x142001, x142002, x142003, x142004, x142005 => if x25 = true then (style_Kind.j3 k x1 x25 x142000 x142001 x142002 x142003 x142004 x142005) else ((strings_IndexByte.f (⟨#[37, 39, 95, 91, 93]⟩ : ByteArray) x1).bind fun t142 => (style_Kind.j3 k x1 (decide (t142 ≥ 0)) x142000 x142001 x142002 x142003 x142004 x142005))
def style_Kind.j3 : Nat → Int → Bool → Bool → Int → Int → Int → Int → Int → Option (Int)
  | 0, _, _, _, _, _, _, _, _ => none
  | k + 1, x1, x25, x142000, x142001, x142002, x142003, x142004, x142005 => if x25 = true then (some 1) else (if 48 ≤ x1 then (if x1 ≤ 57 then (some 2) else (style_Kind.j4 k x1 x142000 x142001 x142002 x142003 x142004 x142005)) else (style_Kind.j4 k x1 x142000 x142001 x142002 x142003 x142004 x142005))
end
def style_Kind.f (k : Nat) (a0 : Int) (a1 : Int) : Option (Int) := (style_Of.f a0).bind fun bt134 => (if bt134.2.2.2.2.2.2 = true then (style_Kind.j0 k a1 (a1 == 0) bt134.1 bt134.2.1 bt134.2.2.1 bt134.2.2.2.1 bt134.2.2.2.2.1 bt134.2.2.2.2.2.1) else (style_Kind.j0 k a1 true bt134.1 bt134.2.1 bt134.2.2.1 bt134.2.2.2.1 bt134.2.2.2.2.1 bt134.2.2.2.2.2.1))
theorem style_Kind.mono_l : ∀ k, (∀ y0 y1 y2 y3 y4 y5 y6 y7, LeO (style_Kind.j0 k y0 y1 y2 y3 y4 y5 y6 y7) (style_Kind.j0 (k + 1) y0 y1 y2 y3 y4 y5 y6 y7)) ∧ (∀ y0 y1 y2 y3 y4 y5 y6, LeO (style_Kind.j4 k y0 y1 y2 y3 y4 y5 y6) (style_Kind.j4 (k + 1) y0 y1 y2 y3 y4 y5 y6)) ∧ (∀ y0 y1 y2 y3 y4 y5 y6 y7, LeO (style_Kind.j5 k y0 y1 y2 y3 y4 y5 y6 y7) (style_Kind.j5 (k + 1) y0 y1 y2 y3 y4 y5 y6 y7)) ∧ (∀ y0 y1 y2 y3 y4 y5 y6 y7, LeO (style_Kind.j1 k y0 y1 y2 y3 y4 y5 y6 y7) (style_Kind.j1 (k + 1) y0 y1 y2 y3 y4 y5 y6 y7)) ∧ (∀ y0 y1 y2 y3 y4 y5 y6 y7, LeO (style_Kind.j2 k y0 y1 y2 y3 y4 y5 y6 y7) (style_Kind.j2 (k + 1) y0 y1 y2 y3 y4 y5 y6 y7)) ∧ (∀ y0 y1 y2 y3 y4 y5 y6 y7, LeO (style_Kind.j3 k y0 y1 y2 y3 y4 y5 y6 y7) (style_Kind.j3 (k + 1) y0 y1 y2 y3 y4 y5 y6 y7))
  | 0 => ⟨fun _ _ _ _ _ _ _ _ r h => by simp [style_Kind.j0] at h, fun _ _ _ _ _ _ _ r h => by simp [style_Kind.j4] at h, fun _ _ _ _ _ _ _ _ r h => by simp [style_Kind.j5] at h, fun _ _ _ _ _ _ _ _ r h => by simp [style_Kind.j1] at h, fun _ _ _ _ _ _ _ _ r h => by simp [style_Kind.j2] at h, fun _ _ _ _ _ _ _ _ r h => by simp [style_Kind.j3] at h⟩
  | k + 1 => by
    obtain ⟨ih0, ih1, ih2, ih3, ih4, ih5⟩ := style_Kind.mono_l k
    refine ⟨?_, ?_, ?_, ?_, ?_, ?_⟩
    · intro y0 y1 y2 y3 y4 y5 y6 y7
      unfold style_Kind.j0
      repeat' first
      | (with_reducible exact ih0 _ _ _ _ _ _ _ _)
      | (with_reducible exact ih1 _ _ _ _ _ _ _)
      | (with_reducible exact ih2 _ _ _ _ _ _ _ _)
      | (with_reducible exact ih3 _ _ _ _ _ _ _ _)
      | (with_reducible exact ih4 _ _ _ _ _ _ _ _)
      | (with_reducible exact ih5 _ _ _ _ _ _ _ _)
      | (with_reducible exact LeO.refl _)
      | (with_reducible exact LeO.none _)
      | (with_reducible refine LeO.ite ?_ ?_)
      | (with_reducible refine LeO.bind ?_ (fun _ => ?_))
      | exact ih0 _ _ _ _ _ _ _ _
      | exact ih1 _ _ _ _ _ _ _
      | exact ih2 _ _ _ _ _ _ _ _
      | exact ih3 _ _ _ _ _ _ _ _
      | exact ih4 _ _ _ _ _ _ _ _
      | exact ih5 _ _ _ _ _ _ _ _
      | exact LeO.none _
      | refine LeO.ite ?_ ?_
      | refine LeO.bind ?_ (fun _ => ?_)
    · intro y0 y1 y2 y3 y4 y5 y6
      unfold style_Kind.j4
      repeat' first
      | (with_reducible exact ih0 _ _ _ _ _ _ _ _)
      | (with_reducible exact ih1 _ _ _ _ _ _ _)
      | (with_reducible exact ih2 _ _ _ _ _ _ _ _)
      | (with_reducible exact ih3 _ _ _ _ _ _ _ _)
      | (with_reducible exact ih4 _ _ _ _ _ _ _ _)
      | (with_reducible exact ih5 _ _ _ _ _ _ _ _)
      | (with_reducible exact LeO.refl _)
      | (with_reducible exact LeO.none _)
      | (with_reducible refine LeO.ite ?_ ?_)
      | (with_reducible refine LeO.bind ?_ (fun _ => ?_))
      | exact ih0 _ _ _ _ _ _ _ _
      | exact ih1 _ _ _ _ _ _ _
      | exact ih2 _ _ _ _ _ _ _ _
      | exact ih3 _ _ _ _ _ _ _ _
      | exact ih4 _ _ _ _ _ _ _ _
      | exact ih5 _ _ _ _ _ _ _ _
      | exact LeO.none _
      | refine LeO.ite ?_ ?_
      | refine LeO.bind ?_ (fun _ => ?_)
    · intro y0 y1 y2 y3 y4 y5 y6 y7
      unfold style_Kind.j5
      repeat' first
      | (with_reducible exact ih0 _ _ _ _ _ _ _ _)
      | (with_reducible exact ih1 _ _ _ _ _ _ _)
      | (with_reducible exact ih2 _ _ _ _ _ _ _ _)
      | (with_reducible exact ih3 _ _ _ _ _ _ _ _)
      | (with_reducible exact ih4 _ _ _ _ _ _ _ _)
      | (with_reducible exact ih5 _ _ _ _ _ _ _ _)
      | (with_reducible exact LeO.refl _)
      | (with_reducible exact LeO.none _)
      | (with_reducible refine LeO.ite ?_ ?_)
      | (with_reducible refine LeO.bind ?_ (fun _ => ?_))
      | exact ih0 _ _ _ _ _ _ _ _
      | exact ih1 _ _ _ _ _ _ _
      | exact ih2 _ _ _ _ _ _ _ _
      | exact ih3 _ _ _ _ _ _ _ _
      | exact ih4 _ _ _ _ _ _ _ _
      | exact ih5 _ _ _ _ _ _ _ _
      | exact LeO.none _
      | refine LeO.ite ?_ ?_
      | refine LeO.bind ?_ (fun _ => ?_)
    · intro y0 y1 y2 y3 y4 y5 y6 y7
      unfold style_Kind.j1
      repeat' first
      | (with_reducible exact ih0 _ _ _ _ _ _ _ _)
      | (with_reducible exact ih1 _ _ _ _ _ _ _)
      | (with_reducible exact ih2 _ _ _ _ _ _ _ _)
      | (with_reducible exact ih3 _ _ _ _ _ _ _ _)
      | (with_reducible exact ih4 _ _ _ _ _ _ _ _)
      | (with_reducible exact ih5 _ _ _ _ _ _ _ _)
      | (with_reducible exact LeO.refl _)
      | (with_reducible exact LeO.none _)
      | (with_reducible refine LeO.ite ?_ ?_)
      | (with_reducible refine LeO.bind ?_ (fun _ => ?_))
      | exact ih0 _ _ _ _ _ _ _ _
      | exact ih1 _ _ _ _ _ _ _
      | exact ih2 _ _ _ _ _ _ _ _
      | exact ih3 _ _ _ _ _ _ _ _
      | exact ih4 _ _ _ _ _ _ _ _
      | exact ih5 _ _ _ _ _ _ _ _
      | exact LeO.none _
      | refine LeO.ite ?_ ?_
      | refine LeO.bind ?_ (fun _ => ?_)
    · intro y0 y1 y2 y3 y4 y5 y6 y7
      unfold style_Kind.j2
      repeat' first
      | (with_reducible exact ih0 _ _ _ _ _ _ _ _)
      | (with_reducible exact ih1 _ _ _ _ _ _ _)
      | (with_reducible exact ih2 _ _ _ _ _ _ _ _)
      | (with_reducible exact ih3 _ _ _ _ _ _ _ _)
      | (with_reducible exact ih4 _ _ _ _ _ _ _ _)
      | (with_reducible exact ih5 _ _ _ _ _ _ _ _)
      | (with_reducible exact LeO.refl _)
      | (with_reducible exact LeO.none _)
      | (with_reducible refine LeO.ite ?_ ?_)
      | (with_reducible refine LeO.bind ?_ (fun _ => ?_))
      | exact ih0 _ _ _ _ _ _ _ _
      | exact ih1 _ _ _ _ _ _ _
      | exact ih2 _ _ _ _ _ _ _ _
      | exact ih3 _ _ _ _ _ _ _ _
      | exact ih4 _ _ _ _ _ _ _ _
      | exact ih5 _ _ _ _ _ _ _ _
      | exact LeO.none _
      | refine LeO.ite ?_ ?_
      | refine LeO.bind ?_ (fun _ => ?_)
    · intro y0 y1 y2 y3 y4 y5 y6 y7
      unfold style_Kind.j3
      repeat' first
      | (with_reducible exact ih0 _ _ _ _ _ _ _ _)
      | (with_reducible exact ih1 _ _ _ _ _ _ _)
      | (with_reducible exact ih2 _ _ _ _ _ _ _ _)
      | (with_reducible exact ih3 _ _ _ _ _ _ _ _)
      | (with_reducible exact ih4 _ _ _ _ _ _ _ _)
      | (with_reducible exact ih5 _ _ _ _ _ _ _ _)
      | (with_reducible exact LeO.refl _)
      | (with_reducible exact LeO.none _)
      | (with_reducible refine LeO.ite ?_ ?_)
      | (with_reducible refine LeO.bind ?_ (fun _ => ?_))
      | exact ih0 _ _ _ _ _ _ _ _
      | exact ih1 _ _ _ _ _ _ _
      | exact ih2 _ _ _ _ _ _ _ _
      | exact ih3 _ _ _ _ _ _ _ _
      | exact ih4 _ _ _ _ _ _ _ _
      | exact ih5 _ _ _ _ _ _ _ _
      | exact LeO.none _
      | refine LeO.ite ?_ ?_
      | refine LeO.bind ?_ (fun _ => ?_)
theorem style_Kind.mono : ∀ a0 a1 k, LeO (style_Kind.f k a0 a1) (style_Kind.f (k + 1) a0 a1) := by
  intro a0 a1 k
  obtain ⟨ih0, ih1, ih2, ih3, ih4, ih5⟩ := style_Kind.mono_l k
  unfold style_Kind.f
  repeat' first
      | (with_reducible exact ih0 _ _ _ _ _ _ _ _)
      | (with_reducible exact ih1 _ _ _ _ _ _ _)
      | (with_reducible exact ih2 _ _ _ _ _ _ _ _)
      | (with_reducible exact ih3 _ _ _ _ _ _ _ _)
      | (with_reducible exact ih4 _ _ _ _ _ _ _ _)
      | (with_reducible exact ih5 _ _ _ _ _ _ _ _)
      | (with_reducible exact LeO.refl _)
      | (with_reducible exact LeO.none _)
      | (with_reducible refine LeO.ite ?_ ?_)
      | (with_reducible refine LeO.bind ?_ (fun _ => ?_))
      | exact ih0 _ _ _ _ _ _ _ _
      | exact ih1 _ _ _ _ _ _ _
      | exact ih2 _ _ _ _ _ _ _ _
      | exact ih3 _ _ _ _ _ _ _ _
      | exact ih4 _ _ _ _ _ _ _ _
      | exact ih5 _ _ _ _ _ _ _ _
      | exact LeO.none _
      | refine LeO.ite ?_ ?_
      | refine LeO.bind ?_ (fun _ => ?_)
set_option maxHeartbeats 8000000 in
set_option maxRecDepth 100000 in
theorem style_Kind.calls (k : Nat) (a0 : Int) (a1 : Int) (r : Int) (w : World) (hG : Glob [0] w) (h : style_Kind.f k a0 a1 = some r) :
    Calls Tryd.prog 10 #[.int .i64 a0, .int .u8 a1] w fun e w' => e = .returned (.int .i64 r) ∧ Below w.heap.size w w' := by
  have hu25 := Tryd.underlying25
  have HB := Aside0.mk (Below.refl w.heap.size w)
  have H : ((style_Of.f a0).bind fun bt134 => (if bt134.2.2.2.2.2.2 = true then (style_Kind.j0 k a1 (a1 == 0) bt134.1 bt134.2.1 bt134.2.2.1 bt134.2.2.2.1 bt134.2.2.2.2.1 bt134.2.2.2.2.2.1) else (style_Kind.j0 k a1 true bt134.1 bt134.2.1 bt134.2.2.1 bt134.2.2.2.1 bt134.2.2.2.2.1 bt134.2.2.2.2.2.1))) = some r := h
  clear h
  replace H := Option.bind_eq_some_iff.mp H
  obtain ⟨⟨t134, t135, t136, t137, t138, t139, t140⟩, A30, H⟩ := H
  replace H : (if t140 = true then (style_Kind.j0 k a1 (a1 == 0) t134 t135 t136 t137 t138 t139) else (style_Kind.j0 k a1 true t134 t135 t136 t137 t138 t139)) = some r := H
  have A3 := Aside0.mk A30
  clear A30
  have HC4 := Aside0.mk H
  clear H
  go_enter Tryd.func10, Tryd.ntmps10
  go_upto_region 2 with (first | ((with_reducible refine gate_callee (f := 9) rfl ?_); refine goesL_ (some 9) rfl rfl Tryd.func9 (by kernel_rfl) rfl #[.int .i64 a0] rfl (by (try simp only [List.map_toArray, List.map_cons, List.map_nil]); first | done | rfl | (simp only [List.length_drop, List.length_take]; rfl)) ?_; (with_reducible refine (style_Of.calls a0 t134 t135 t136 t137 t138 t139 t140 _ (Glob.use hG (by decide) (by repeat (first | (with_reducible first | exact HB.out | apply below_alloc | apply pw_below_drewN | apply below_drew1) | exact HB.out))) A3.out).mono ?_); rintro e w5 ⟨rfl, hb⟩; refine ⟨_, rfl, ?_⟩; have n0_ := Aside0.mk (below_step (by repeat (first | (with_reducible first | exact HB.out | apply below_alloc | apply pw_below_drewN | apply below_drew1) | exact HB.out)) hb); clear HB; have HB := n0_; clear n0_; (try clear hb); (try clear hb2); (try clear hk); (try clear hi)) | ((with_reducible refine gate_dst (N := 5) rfl ?_); refine box_event ?hg (N := 5) ?hd (cs := #[.bool false, .int .u8 0, .int .u8 0, .int .u8 0, .int .u8 0, .int .u8 0]) (t := 25) ?hr ?_; (case hd => rfl); (case hg => rfl); (case hr => first | (go_simp; done) | (go_simp; rfl)); intro gb141 hg w6 hbox hb; have n0_ := Aside0.mk (below_step (by repeat (first | (with_reducible first | exact HB.out | apply below_alloc | apply pw_below_drewN | apply below_drew1) | exact HB.out)) hb); have n1_ := Aside0.mk (hbox); have n2_ := Aside0.mk ((by rw [hg]; exact (below_size (by repeat (first | (with_reducible first | exact HB.out | apply below_alloc | apply pw_below_drewN | apply below_drew1) | exact HB.out))) : w.heap.size ≤ gb141)); have n3_ := Aside0.mk ((by rw [hg]; exact (below_size (by repeat (first | (with_reducible first | exact HB.out | apply below_alloc | apply pw_below_drewN | apply below_drew1) | exact HB.out))) : w.heap.size ≤ gb141)); clear HB; have HB := n0_; have BK141 := n1_; have GW141 := n2_; have GE141 := n3_; clear n0_ n1_ n2_ n3_; clear hb hbox hg; have hcz7_0 : w6.cell? ⟨gb141, 0, none⟩ = some (.bool false) := (blk_cell BK141.out 0).trans rfl; have hcz7_1 : w6.cell? ⟨gb141, 1, none⟩ = some (.int .u8 0) := (blk_cell BK141.out 1).trans rfl; have hcz7_2 : w6.cell? ⟨gb141, 2, none⟩ = some (.int .u8 0) := (blk_cell BK141.out 2).trans rfl; have hcz7_3 : w6.cell? ⟨gb141, 3, none⟩ = some (.int .u8 0) := (blk_cell BK141.out 3).trans rfl; have hcz7_4 : w6.cell? ⟨gb141, 4, none⟩ = some (.int .u8 0) := (blk_cell BK141.out 4).trans rfl; have hcz7_5 : w6.cell? ⟨gb141, 5, none⟩ = some (.int .u8 0) := (blk_cell BK141.out 5).trans rfl; have hfz7_0 := blk_frozen BK141.out 0; have hfz7_1 := blk_frozen BK141.out 1; have hfz7_2 := blk_frozen BK141.out 2; have hfz7_3 := blk_frozen BK141.out 3; have hfz7_4 := blk_frozen BK141.out 4; have hfz7_5 := blk_frozen BK141.out 5))
  (try simp only [Act.put, List.setIfInBounds_toArray, List.set_cons_zero, List.set_cons_succ])
  go_cut [17] (fun v17 wc => ∃ (kq : Nat) (x17_3 : Bool), v17 = .bool x17_3 ∧ Aside0 (style_Kind.j0 kq a1 x17_3 t134 t135 t136 t137 t138 t139 = some r) ∧ Aside0 (kq ≤ k) ∧ Aside0 (wc.heap[gb141]? = some (.cells #[.bool t134, .int .u8 t135, .int .u8 t136, .int .u8 t137, .int .u8 t138, .int .u8 t139] 25 (0, 0))) ∧ Aside0 (Below w.heap.size w wc))
  case first =>
    have H := HC4.out
    clear HC4
    by_cases c8 : t140 = true
    · subst c8
      have H1 : (style_Kind.j0 k a1 (a1 == 0) t134 t135 t136 t137 t138 t139) = some r := by rw [if_pos rfl] at H; exact H
      clear H
      have H := H1
      clear H1
      have H' := Aside0.mk H
      clear H
      go_wp2
      go_meet
      case rel => exact ⟨_, ((a1 == 0)), (by first | rfl | (simp; done) | (simp [*]; done)), H', ⟨by first | omega | exact Nat.le_refl _⟩, ⟨by (with_reducible repeat (first | refine blk_drewN ?_ _ | refine blk_drew ?_ | refine blk_alloc ?_ _)); refine blk_put (cs := #[.bool t134, .int .u8 t135, .int .u8 t136, .int .u8 t137, .int .u8 t138, .int .u8 0]) ?_ 5 _ rfl; (with_reducible repeat (first | refine blk_drewN ?_ _ | refine blk_drew ?_ | refine blk_alloc ?_ _)); refine blk_put (cs := #[.bool t134, .int .u8 t135, .int .u8 t136, .int .u8 t137, .int .u8 0, .int .u8 0]) ?_ 4 _ rfl; (with_reducible repeat (first | refine blk_drewN ?_ _ | refine blk_drew ?_ | refine blk_alloc ?_ _)); refine blk_put (cs := #[.bool t134, .int .u8 t135, .int .u8 t136, .int .u8 0, .int .u8 0, .int .u8 0]) ?_ 3 _ rfl; (with_reducible repeat (first | refine blk_drewN ?_ _ | refine blk_drew ?_ | refine blk_alloc ?_ _)); refine blk_put (cs := #[.bool t134, .int .u8 t135, .int .u8 0, .int .u8 0, .int .u8 0, .int .u8 0]) ?_ 2 _ rfl; (with_reducible repeat (first | refine blk_drewN ?_ _ | refine blk_drew ?_ | refine blk_alloc ?_ _)); refine blk_put (cs := #[.bool t134, .int .u8 0, .int .u8 0, .int .u8 0, .int .u8 0, .int .u8 0]) ?_ 1 _ rfl; (with_reducible repeat (first | refine blk_drewN ?_ _ | refine blk_drew ?_ | refine blk_alloc ?_ _)); refine blk_put (cs := #[.bool false, .int .u8 0, .int .u8 0, .int .u8 0, .int .u8 0, .int .u8 0]) ?_ 0 _ rfl; (with_reducible repeat (first | refine blk_drewN ?_ _ | refine blk_drew ?_ | refine blk_alloc ?_ _)); exact BK141.out⟩, ⟨by repeat (first | (with_reducible first | exact HB.out | apply below_alloc | apply pw_below_drewN | apply below_drew1 | refine below_set ?_ GE141.out) | exact HB.out)⟩⟩
    · replace c8 := Bool.eq_false_iff.mpr c8
      subst c8
      have H1 : (style_Kind.j0 k a1 true t134 t135 t136 t137 t138 t139) = some r := by rw [if_neg (show ¬ (false = true) by decide)] at H; exact H
      clear H
      have H := H1
      clear H1
      have H' := Aside0.mk H
      clear H
      go_wp2
      go_meet
      case rel => exact ⟨_, (true), (by first | rfl | (simp; done) | (simp [*]; done)), H', ⟨by first | omega | exact Nat.le_refl _⟩, ⟨by (with_reducible repeat (first | refine blk_drewN ?_ _ | refine blk_drew ?_ | refine blk_alloc ?_ _)); refine blk_put (cs := #[.bool t134, .int .u8 t135, .int .u8 t136, .int .u8 t137, .int .u8 t138, .int .u8 0]) ?_ 5 _ rfl; (with_reducible repeat (first | refine blk_drewN ?_ _ | refine blk_drew ?_ | refine blk_alloc ?_ _)); refine blk_put (cs := #[.bool t134, .int .u8 t135, .int .u8 t136, .int .u8 t137, .int .u8 0, .int .u8 0]) ?_ 4 _ rfl; (with_reducible repeat (first | refine blk_drewN ?_ _ | refine blk_drew ?_ | refine blk_alloc ?_ _)); refine blk_put (cs := #[.bool t134, .int .u8 t135, .int .u8 t136, .int .u8 0, .int .u8 0, .int .u8 0]) ?_ 3 _ rfl; (with_reducible repeat (first | refine blk_drewN ?_ _ | refine blk_drew ?_ | refine blk_alloc ?_ _)); refine blk_put (cs := #[.bool t134, .int .u8 t135, .int .u8 0, .int .u8 0, .int .u8 0, .int .u8 0]) ?_ 2 _ rfl; (with_reducible repeat (first | refine blk_drewN ?_ _ | refine blk_drew ?_ | refine blk_alloc ?_ _)); refine blk_put (cs := #[.bool t134, .int .u8 0, .int .u8 0, .int .u8 0, .int .u8 0, .int .u8 0]) ?_ 1 _ rfl; (with_reducible repeat (first | refine blk_drewN ?_ _ | refine blk_drew ?_ | refine blk_alloc ?_ _)); refine blk_put (cs := #[.bool false, .int .u8 0, .int .u8 0, .int .u8 0, .int .u8 0, .int .u8 0]) ?_ 0 _ rfl; (with_reducible repeat (first | refine blk_drewN ?_ _ | refine blk_drew ?_ | refine blk_alloc ?_ _)); exact BK141.out⟩, ⟨by repeat (first | (with_reducible first | exact HB.out | apply below_alloc | apply pw_below_drewN | apply below_drew1 | refine below_set ?_ GE141.out) | exact HB.out)⟩⟩
  case rest =>
    clear HC4
    try clear c1
    try clear p2
    try clear c8
    try clear hcz7_0
    try clear hcz7_1
    try clear hcz7_2
    try clear hcz7_3
    try clear hcz7_4
    try clear hcz7_5
    try clear hfz7_0
    try clear hfz7_1
    try clear hfz7_2
    try clear hfz7_3
    try clear hfz7_4
    try clear hfz7_5
    obtain ⟨kq, x17_3, rfl, HA, HJ3, BK141, HB⟩ := hcut
    cases kq with
    | zero => exact absurd HA.out (by simp [style_Kind.j0])
    | succ kj3 =>
      have H := HA.out
      clear HA
      simp only [style_Kind.j0] at H
      by_cases c9 : x17_3 = true
      · subst c9
        have H1 : (some 0) = some r := by rw [if_pos rfl] at H; exact H
        clear H
        have H := H1
        clear H1
        obtain rfl := Option.some.inj H
        go_wp2
        go_ret
        exact ⟨by first | rfl | (simp [errW_none, errW_some] <;> rfl) | (simp [*, errW_none, errW_some] <;> rfl), by repeat (first | (with_reducible first | exact HB.out | apply below_alloc | apply pw_below_drewN | apply below_drew1 | refine below_set ?_ GE141.out) | exact HB.out)⟩
      · replace c9 := Bool.eq_false_iff.mpr c9
        subst c9
        have H1 : (if 97 ≤ a1 then (style_Kind.j1 kj3 a1 (decide (a1 ≤ 122)) t134 t135 t136 t137 t138 t139) else (style_Kind.j1 kj3 a1 false t134 t135 t136 t137 t138 t139)) = some r := by rw [if_neg (show ¬ (false = true) by decide)] at H; exact H
        clear H
        have H := H1
        clear H1
        have HC10 := Aside0.mk H
        clear H
        go_upto_block 0 with (fail)
        go_cut [] (fun wc => ∃ (kq : Nat), Aside0 (style_Kind.j4 kq a1 t134 t135 t136 t137 t138 t139 = some r) ∧ Aside0 (kq ≤ kj3) ∧ Aside0 (wc.heap[gb141]? = some (.cells #[.bool t134, .int .u8 t135, .int .u8 t136, .int .u8 t137, .int .u8 t138, .int .u8 t139] 25 (0, 0))) ∧ Aside0 (Below w.heap.size w wc))
        case first =>
          have H := HC10.out
          clear HC10
          have HC11 := Aside0.mk H
          clear H
          go_upto_region 4 with (fail)
          go_cut [18] (fun v18 wc => ∃ (kq : Nat) (x18_10 : Bool), v18 = .bool x18_10 ∧ Aside0 (style_Kind.j1 kq a1 x18_10 t134 t135 t136 t137 t138 t139 = some r) ∧ Aside0 (kq ≤ kj3) ∧ Aside0 (wc.heap[gb141]? = some (.cells #[.bool t134, .int .u8 t135, .int .u8 t136, .int .u8 t137, .int .u8 t138, .int .u8 t139] 25 (0, 0))) ∧ Aside0 (Below w.heap.size w wc))
          case first =>
            have H := HC11.out
            clear HC11
            by_cases c12 : 97 ≤ a1
            · rw [if_pos c12] at H
              have c12b0 : decide (97 ≤ a1) = true := decide_eq_true c12
              clear c12
              (first | rw [c12b0] | (simp only [i64_w, i32_w]; rw [c12b0]) | skip)
              have H' := Aside0.mk H
              clear H
              go_wp2
              go_meet
              case rel => exact ⟨_, (decide (a1 ≤ 122)), (by first | rfl | (simp; done) | (simp [*]; done)), H', ⟨by have := HJ3.out; first | omega | exact Nat.le_refl _⟩, ⟨by (with_reducible repeat (first | refine blk_drewN ?_ _ | refine blk_drew ?_ | refine blk_alloc ?_ _)); exact BK141.out⟩, ⟨by repeat (first | (with_reducible first | exact HB.out | apply below_alloc | apply pw_below_drewN | apply below_drew1 | refine below_set ?_ GE141.out) | exact HB.out)⟩⟩
            · rw [if_neg c12] at H
              have c12b0 : decide (97 ≤ a1) = false := decide_eq_false c12
              clear c12
              (first | rw [c12b0] | (simp only [i64_w, i32_w]; rw [c12b0]) | skip)
              have H' := Aside0.mk H
              clear H
              go_wp2
              go_meet
              case rel => exact ⟨_, (false), (by first | rfl | (simp; done) | (simp [*]; done)), H', ⟨by have := HJ3.out; first | omega | exact Nat.le_refl _⟩, ⟨by (with_reducible repeat (first | refine blk_drewN ?_ _ | refine blk_drew ?_ | refine blk_alloc ?_ _)); exact BK141.out⟩, ⟨by repeat (first | (with_reducible first | exact HB.out | apply below_alloc | apply pw_below_drewN | apply below_drew1 | refine below_set ?_ GE141.out) | exact HB.out)⟩⟩
          case rest =>
            clear HC11
            try clear c1
            try clear p2
            try clear c8
            try clear c9
            try clear c10
            try clear c12
            try clear c12b0
            try clear hcz7_0
            try clear hcz7_1
            try clear hcz7_2
            try clear hcz7_3
            try clear hcz7_4
            try clear hcz7_5
            try clear hfz7_0
            try clear hfz7_1
            try clear hfz7_2
            try clear hfz7_3
            try clear hfz7_4
            try clear hfz7_5
            try clear p2
            obtain ⟨kq, x18_10, rfl, HA, HJ10, BK141, HB⟩ := hcut
            cases kq with
            | zero => exact absurd HA.out (by simp [style_Kind.j1])
            | succ kj10 =>
              have H := HA.out
              clear HA
              simp only [style_Kind.j1] at H
              by_cases c13 : x18_10 = true
              · subst c13
                have H1 : (some 1) = some r := by rw [if_pos rfl] at H; exact H
                clear H
                have H := H1
                clear H1
                obtain rfl := Option.some.inj H
                go_wp2
                go_ret
                exact ⟨by first | rfl | (simp [errW_none, errW_some] <;> rfl) | (simp [*, errW_none, errW_some] <;> rfl), by repeat (first | (with_reducible first | exact HB.out | apply below_alloc | apply pw_below_drewN | apply below_drew1 | refine below_set ?_ GE141.out) | exact HB.out)⟩
              · replace c13 := Bool.eq_false_iff.mpr c13
                subst c13
                have H1 : (if 65 ≤ a1 then (style_Kind.j2 kj10 a1 (decide (a1 ≤ 90)) t134 t135 t136 t137 t138 t139) else (style_Kind.j2 kj10 a1 false t134 t135 t136 t137 t138 t139)) = some r := by rw [if_neg (show ¬ (false = true) by decide)] at H; exact H
                clear H
                have H := H1
                clear H1
                have HC14 := Aside0.mk H
                clear H
                go_upto_region 5 with (fail)
                go_cut [25] (fun v25 wc => ∃ (kq : Nat) (x25_13 : Bool), v25 = .bool x25_13 ∧ Aside0 (style_Kind.j2 kq a1 x25_13 t134 t135 t136 t137 t138 t139 = some r) ∧ Aside0 (kq ≤ kj10) ∧ Aside0 (wc.heap[gb141]? = some (.cells #[.bool t134, .int .u8 t135, .int .u8 t136, .int .u8 t137, .int .u8 t138, .int .u8 t139] 25 (0, 0))) ∧ Aside0 (Below w.heap.size w wc))
                case first =>
                  have H := HC14.out
                  clear HC14
                  by_cases c15 : 65 ≤ a1
                  · rw [if_pos c15] at H
                    have c15b0 : decide (65 ≤ a1) = true := decide_eq_true c15
                    clear c15
                    (first | rw [c15b0] | (simp only [i64_w, i32_w]; rw [c15b0]) | skip)
                    have H' := Aside0.mk H
                    clear H
                    go_wp2
                    go_meet
                    case rel => exact ⟨_, (decide (a1 ≤ 90)), (by first | rfl | (simp; done) | (simp [*]; done)), H', ⟨by have := HJ3.out; have := HJ10.out; first | omega | exact Nat.le_refl _⟩, ⟨by (with_reducible repeat (first | refine blk_drewN ?_ _ | refine blk_drew ?_ | refine blk_alloc ?_ _)); exact BK141.out⟩, ⟨by repeat (first | (with_reducible first | exact HB.out | apply below_alloc | apply pw_below_drewN | apply below_drew1 | refine below_set ?_ GE141.out) | exact HB.out)⟩⟩
                  · rw [if_neg c15] at H
                    have c15b0 : decide (65 ≤ a1) = false := decide_eq_false c15
                    clear c15
                    (first | rw [c15b0] | (simp only [i64_w, i32_w]; rw [c15b0]) | skip)
                    have H' := Aside0.mk H
                    clear H
                    go_wp2
                    go_meet
                    case rel => exact ⟨_, (false), (by first | rfl | (simp; done) | (simp [*]; done)), H', ⟨by have := HJ3.out; have := HJ10.out; first | omega | exact Nat.le_refl _⟩, ⟨by (with_reducible repeat (first | refine blk_drewN ?_ _ | refine blk_drew ?_ | refine blk_alloc ?_ _)); exact BK141.out⟩, ⟨by repeat (first | (with_reducible first | exact HB.out | apply below_alloc | apply pw_below_drewN | apply below_drew1 | refine below_set ?_ GE141.out) | exact HB.out)⟩⟩
                case rest =>
                  clear HC14
                  try clear c1
                  try clear p2
                  try clear c8
                  try clear c9
                  try clear c10
                  try clear c12
                  try clear c12b0
                  try clear c13
                  try clear c15
                  try clear c15b0
                  try clear hcz7_0
                  try clear hcz7_1
                  try clear hcz7_2
                  try clear hcz7_3
                  try clear hcz7_4
                  try clear hcz7_5
                  try clear hfz7_0
                  try clear hfz7_1
                  try clear hfz7_2
                  try clear hfz7_3
                  try clear hfz7_4
                  try clear hfz7_5
                  try clear p2
                  obtain ⟨kq, x25_13, rfl, HA, HJ13, BK141, HB⟩ := hcut
                  cases kq with
                  | zero => exact absurd HA.out (by simp [style_Kind.j2])
                  | succ kj13 =>
                    have H := HA.out
                    clear HA
                    simp only [style_Kind.j2] at H
                    have HC16 := Aside0.mk H
                    clear H
                    go_upto_if 25 with (fail)
                    go_cut [25] (fun v25 wc => ∃ (kq : Nat) (x25_15 : Bool), v25 = .bool x25_15 ∧ Aside0 (style_Kind.j3 kq a1 x25_15 t134 t135 t136 t137 t138 t139 = some r) ∧ Aside0 (kq ≤ kj13) ∧ Aside0 (wc.heap[gb141]? = some (.cells #[.bool t134, .int .u8 t135, .int .u8 t136, .int .u8 t137, .int .u8 t138, .int .u8 t139] 25 (0, 0))) ∧ Aside0 (Below w.heap.size w wc))
                    case first =>
                      have H := HC16.out
                      clear HC16
                      by_cases c17 : x25_13 = true
                      · subst c17
                        have H1 : (style_Kind.j3 kj13 a1 true t134 t135 t136 t137 t138 t139) = some r := by rw [if_pos rfl] at H; exact H
                        clear H
                        have H := H1
                        clear H1
                        have H' := Aside0.mk H
                        clear H
                        go_wp2
                        go_meet
                        case rel => exact ⟨_, (true), (by first | rfl | (simp; done) | (simp [*]; done)), H', ⟨by have := HJ3.out; have := HJ10.out; have := HJ13.out; first | omega | exact Nat.le_refl _⟩, ⟨by (with_reducible repeat (first | refine blk_drewN ?_ _ | refine blk_drew ?_ | refine blk_alloc ?_ _)); exact BK141.out⟩, ⟨by repeat (first | (with_reducible first | exact HB.out | apply below_alloc | apply pw_below_drewN | apply below_drew1 | refine below_set ?_ GE141.out) | exact HB.out)⟩⟩
                      · replace c17 := Bool.eq_false_iff.mpr c17
                        subst c17
                        have H1 : ((strings_IndexByte.f (⟨#[37, 39, 95, 91, 93]⟩ : ByteArray) a1).bind fun t142 => (style_Kind.j3 kj13 a1 (decide (t142 ≥ 0)) t134 t135 t136 t137 t138 t139)) = some r := by rw [if_neg (show ¬ (false = true) by decide)] at H; exact H
                        clear H
                        have H := H1
                        clear H1
                        replace H := Option.bind_eq_some_iff.mp H
                        obtain ⟨t142, A180, H⟩ := H
                        replace H : (style_Kind.j3 kj13 a1 (decide (t142 ≥ 0)) t134 t135 t136 t137 t138 t139) = some r := H
                        have A18 := Aside0.mk A180
                        clear A180
                        have H' := Aside0.mk H
                        clear H
                        go_wp2_with (first | ((with_reducible refine gate_callee (f := 15) rfl ?_); refine goesL_ (some 33) rfl rfl Tryd.func15 (by kernel_rfl) rfl #[.string (⟨#[37, 39, 95, 91, 93]⟩ : ByteArray), .int .u8 a1] rfl (by (try simp only [List.map_toArray, List.map_cons, List.map_nil]); first | done | rfl | (simp only [List.length_drop, List.length_take]; rfl)) ?_; (with_reducible refine (strings_IndexByte.calls (⟨#[37, 39, 95, 91, 93]⟩ : ByteArray) a1 t142 _ A18.out).mono ?_); rintro e w' ⟨rfl, ⟨nd, rfl⟩⟩; refine ⟨_, rfl, ?_⟩))
                        go_meet
                        case rel => exact ⟨_, (decide (t142 ≥ 0)), (by first | rfl | (simp; done) | (simp [*]; done)), H', ⟨by have := HJ3.out; have := HJ10.out; have := HJ13.out; first | omega | exact Nat.le_refl _⟩, ⟨by (with_reducible repeat (first | refine blk_drewN ?_ _ | refine blk_drew ?_ | refine blk_alloc ?_ _)); exact BK141.out⟩, ⟨by repeat (first | (with_reducible first | exact HB.out | apply below_alloc | apply pw_below_drewN | apply below_drew1 | refine below_set ?_ GE141.out) | exact HB.out)⟩⟩
                    case rest =>
                      clear HC16
                      try clear c1
                      try clear p2
                      try clear c8
                      try clear c9
                      try clear c10
                      try clear c12
                      try clear c12b0
                      try clear c13
                      try clear c15
                      try clear c15b0
                      try clear c17
                      try clear hcz7_0
                      try clear hcz7_1
                      try clear hcz7_2
                      try clear hcz7_3
                      try clear hcz7_4
                      try clear hcz7_5
                      try clear hfz7_0
                      try clear hfz7_1
                      try clear hfz7_2
                      try clear hfz7_3
                      try clear hfz7_4
                      try clear hfz7_5
                      try clear p2
                      obtain ⟨kq, x25_15, rfl, HA, HJ15, BK141, HB⟩ := hcut
                      cases kq with
                      | zero => exact absurd HA.out (by simp [style_Kind.j3])
                      | succ kj15 =>
                        have H := HA.out
                        clear HA
                        simp only [style_Kind.j3] at H
                        by_cases c19 : x25_15 = true
                        · subst c19
                          have H1 : (some 1) = some r := by rw [if_pos rfl] at H; exact H
                          clear H
                          have H := H1
                          clear H1
                          obtain rfl := Option.some.inj H
                          go_wp2
                          go_ret
                          exact ⟨by first | rfl | (simp [errW_none, errW_some] <;> rfl) | (simp [*, errW_none, errW_some] <;> rfl), by repeat (first | (with_reducible first | exact HB.out | apply below_alloc | apply pw_below_drewN | apply below_drew1 | refine below_set ?_ GE141.out) | exact HB.out)⟩
                        · replace c19 := Bool.eq_false_iff.mpr c19
                          subst c19
                          have H1 : (if 48 ≤ a1 then (if a1 ≤ 57 then (some 2) else (style_Kind.j4 kj15 a1 t134 t135 t136 t137 t138 t139)) else (style_Kind.j4 kj15 a1 t134 t135 t136 t137 t138 t139)) = some r := by rw [if_neg (show ¬ (false = true) by decide)] at H; exact H
                          clear H
                          have H := H1
                          clear H1
                          by_cases c20 : 48 ≤ a1
                          · rw [if_pos c20] at H
                            have c20b0 : decide (48 ≤ a1) = true := decide_eq_true c20
                            clear c20
                            by_cases c21 : a1 ≤ 57
                            · rw [if_pos c21] at H
                              have c21b0 : decide (a1 ≤ 57) = true := decide_eq_true c21
                              clear c21
                              obtain rfl := Option.some.inj H
                              go_wp2
                              go_ret
                              exact ⟨by first | rfl | (simp [errW_none, errW_some] <;> rfl) | (simp [*, errW_none, errW_some] <;> rfl), by repeat (first | (with_reducible first | exact HB.out | apply below_alloc | apply pw_below_drewN | apply below_drew1 | refine below_set ?_ GE141.out) | exact HB.out)⟩
                            · rw [if_neg c21] at H
                              have c21b0 : decide (a1 ≤ 57) = false := decide_eq_false c21
                              clear c21
                              have H' := Aside0.mk H
                              clear H
                              go_wp2
                              go_meet
                              case rel => exact ⟨_, H', ⟨by have := HJ3.out; have := HJ10.out; have := HJ13.out; have := HJ15.out; first | omega | exact Nat.le_refl _⟩, ⟨by (with_reducible repeat (first | refine blk_drewN ?_ _ | refine blk_drew ?_ | refine blk_alloc ?_ _)); exact BK141.out⟩, ⟨by repeat (first | (with_reducible first | exact HB.out | apply below_alloc | apply pw_below_drewN | apply below_drew1 | refine below_set ?_ GE141.out) | exact HB.out)⟩⟩
                          · rw [if_neg c20] at H
                            have c20b0 : decide (48 ≤ a1) = false := decide_eq_false c20
                            clear c20
                            have H' := Aside0.mk H
                            clear H
                            go_wp2
                            go_meet
                            case rel => exact ⟨_, H', ⟨by have := HJ3.out; have := HJ10.out; have := HJ13.out; have := HJ15.out; first | omega | exact Nat.le_refl _⟩, ⟨by (with_reducible repeat (first | refine blk_drewN ?_ _ | refine blk_drew ?_ | refine blk_alloc ?_ _)); exact BK141.out⟩, ⟨by repeat (first | (with_reducible first | exact HB.out | apply below_alloc | apply pw_below_drewN | apply below_drew1 | refine below_set ?_ GE141.out) | exact HB.out)⟩⟩
        case rest =>
          clear HC10
          try clear c1
          try clear c2
          try clear p2
          try clear c8
          try clear c9
          try clear c10
          try clear c12
          try clear c12b0
          try clear c13
          try clear c15
          try clear c15b0
          try clear c17
          try clear c19
          try clear c20
          try clear c20b0
          try clear c21
          try clear c21b0
          try clear hcz7_0
          try clear hcz7_1
          try clear hcz7_2
          try clear hcz7_3
          try clear hcz7_4
          try clear hcz7_5
          try clear hfz7_0
          try clear hfz7_1
          try clear hfz7_2
          try clear hfz7_3
          try clear hfz7_4
          try clear hfz7_5
          try clear p2
          obtain ⟨kq, HA, HJ9, BK141, HB⟩ := hcut
          cases kq with
          | zero => exact absurd HA.out (by simp [style_Kind.j4])
          | succ kj9 =>
            have H := HA.out
            clear HA
            simp only [style_Kind.j4] at H
            have HC22 := Aside0.mk H
            clear H
            go_upto_if 43 with (fail)
            go_cut [43] (fun v43 wc => ∃ (kq : Nat) (x43_21 : Bool), v43 = .bool x43_21 ∧ Aside0 (style_Kind.j5 kq a1 x43_21 t134 t135 t136 t137 t138 t139 = some r) ∧ Aside0 (kq ≤ kj9) ∧ Aside0 (wc.heap[gb141]? = some (.cells #[.bool t134, .int .u8 t135, .int .u8 t136, .int .u8 t137, .int .u8 t138, .int .u8 t139] 25 (0, 0))) ∧ Aside0 (Below w.heap.size w wc))
            case first =>
              have H := HC22.out
              clear HC22
              by_cases c23 : a1 = 43
              · rw [if_pos c23] at H
                have c23b0 : (a1 == 43) = true := beq_iff_eq.mpr c23
                have c23b1 : (a1 != 43) = false := bne_eq_false_iff_eq.mpr c23
                clear c23
                (first | rw [c23b0] | (simp only [i64_w, i32_w]; rw [c23b0]) | skip)
                have H' := Aside0.mk H
                clear H
                go_wp2
                go_meet
                case rel => exact ⟨_, ((a1 == 43)), (by first | rfl | (simp; done) | (simp [*]; done)), H', ⟨by have := HJ3.out; have := HJ9.out; first | omega | exact Nat.le_refl _⟩, ⟨by (with_reducible repeat (first | refine blk_drewN ?_ _ | refine blk_drew ?_ | refine blk_alloc ?_ _)); exact BK141.out⟩, ⟨by repeat (first | (with_reducible first | exact HB.out | apply below_alloc | apply pw_below_drewN | apply below_drew1 | refine below_set ?_ GE141.out) | exact HB.out)⟩⟩
              · rw [if_neg c23] at H
                have c23b0 : (a1 == 43) = false := beq_eq_false_iff_ne.mpr c23
                have c23b1 : (a1 != 43) = true := bne_iff_ne.mpr c23
                (first | rw [c23b0] | (simp only [i64_w, i32_w]; rw [c23b0]) | skip)
                have H' := Aside0.mk H
                clear H
                go_wp2
                go_meet
                case rel => exact ⟨_, ((a1 == 45)), (by first | rfl | (simp; done) | (simp [*]; done)), H', ⟨by have := HJ3.out; have := HJ9.out; first | omega | exact Nat.le_refl _⟩, ⟨by (with_reducible repeat (first | refine blk_drewN ?_ _ | refine blk_drew ?_ | refine blk_alloc ?_ _)); exact BK141.out⟩, ⟨by repeat (first | (with_reducible first | exact HB.out | apply below_alloc | apply pw_below_drewN | apply below_drew1 | refine below_set ?_ GE141.out) | exact HB.out)⟩⟩
            case rest =>
              clear HC22
              try clear c1
              try clear c2
              try clear p2
              try clear c8
              try clear c9
              try clear c10
              try clear c12
              try clear c12b0
              try clear c13
              try clear c15
              try clear c15b0
              try clear c17
              try clear c19
              try clear c20
              try clear c20b0
              try clear c21
              try clear c21b0
              try clear c23
              try clear c23b0
              try clear c23b1
              try clear hcz7_0
              try clear hcz7_1
              try clear hcz7_2
              try clear hcz7_3
              try clear hcz7_4
              try clear hcz7_5
              try clear hfz7_0
              try clear hfz7_1
              try clear hfz7_2
              try clear hfz7_3
              try clear hfz7_4
              try clear hfz7_5
              try clear p2
              obtain ⟨kq, x43_21, rfl, HA, HJ21, BK141, HB⟩ := hcut
              cases kq with
              | zero => exact absurd HA.out (by simp [style_Kind.j5])
              | succ kj21 =>
                have H := HA.out
                clear HA
                simp only [style_Kind.j5] at H
                by_cases c24 : x43_21 = true
                · subst c24
                  have H1 : (some 3) = some r := by rw [if_pos rfl] at H; exact H
                  clear H
                  have H := H1
                  clear H1
                  obtain rfl := Option.some.inj H
                  go_wp2
                  go_ret
                  exact ⟨by first | rfl | (simp [errW_none, errW_some] <;> rfl) | (simp [*, errW_none, errW_some] <;> rfl), by repeat (first | (with_reducible first | exact HB.out | apply below_alloc | apply pw_below_drewN | apply below_drew1 | refine below_set ?_ GE141.out) | exact HB.out)⟩
                · replace c24 := Bool.eq_false_iff.mpr c24
                  subst c24
                  have H1 : (if a1 = 40 then (some 7) else (if a1 = 41 then (some 8) else (if a1 = t135 then (some 4) else (if a1 = t136 then (some 5) else (if a1 = t137 then (some 6) else (if a1 = t138 then (some 9) else (if a1 = t139 then (some 10) else (some 0)))))))) = some r := by rw [if_neg (show ¬ (false = true) by decide)] at H; exact H
                  clear H
                  have H := H1
                  clear H1
                  by_cases c25 : a1 = 40
                  · rw [if_pos c25] at H
                    have c25b0 : (a1 == 40) = true := beq_iff_eq.mpr c25
                    have c25b1 : (a1 != 40) = false := bne_eq_false_iff_eq.mpr c25
                    clear c25
                    obtain rfl := Option.some.inj H
                    go_wp2
                    go_ret
                    exact ⟨by first | rfl | (simp [errW_none, errW_some] <;> rfl) | (simp [*, errW_none, errW_some] <;> rfl), by repeat (first | (with_reducible first | exact HB.out | apply below_alloc | apply pw_below_drewN | apply below_drew1 | refine below_set ?_ GE141.out) | exact HB.out)⟩
                  · rw [if_neg c25] at H
                    have c25b0 : (a1 == 40) = false := beq_eq_false_iff_ne.mpr c25
                    have c25b1 : (a1 != 40) = true := bne_iff_ne.mpr c25
                    by_cases c26 : a1 = 41
                    · rw [if_pos c26] at H
                      have c26b0 : (a1 == 41) = true := beq_iff_eq.mpr c26
                      have c26b1 : (a1 != 41) = false := bne_eq_false_iff_eq.mpr c26
                      clear c26
                      obtain rfl := Option.some.inj H
                      go_wp2
                      go_ret
                      exact ⟨by first | rfl | (simp [errW_none, errW_some] <;> rfl) | (simp [*, errW_none, errW_some] <;> rfl), by repeat (first | (with_reducible first | exact HB.out | apply below_alloc | apply pw_below_drewN | apply below_drew1 | refine below_set ?_ GE141.out) | exact HB.out)⟩
                    · rw [if_neg c26] at H
                      have c26b0 : (a1 == 41) = false := beq_eq_false_iff_ne.mpr c26
                      have c26b1 : (a1 != 41) = true := bne_iff_ne.mpr c26
                      by_cases c27 : a1 = t135
                      · rw [if_pos c27] at H
                        have c27b0 : (a1 == t135) = true := beq_iff_eq.mpr c27
                        have c27b1 : (a1 != t135) = false := bne_eq_false_iff_eq.mpr c27
                        clear c27
                        obtain rfl := Option.some.inj H
                        have hcz28_0 : wc.cell? ⟨gb141, 0, none⟩ = some (.bool t134) := (blk_cell BK141.out 0).trans rfl
                        have hcz28_1 : wc.cell? ⟨gb141, 1, none⟩ = some (.int .u8 t135) := (blk_cell BK141.out 1).trans rfl
                        have hcz28_2 : wc.cell? ⟨gb141, 2, none⟩ = some (.int .u8 t136) := (blk_cell BK141.out 2).trans rfl
                        have hcz28_3 : wc.cell? ⟨gb141, 3, none⟩ = some (.int .u8 t137) := (blk_cell BK141.out 3).trans rfl
                        have hcz28_4 : wc.cell? ⟨gb141, 4, none⟩ = some (.int .u8 t138) := (blk_cell BK141.out 4).trans rfl
                        have hcz28_5 : wc.cell? ⟨gb141, 5, none⟩ = some (.int .u8 t139) := (blk_cell BK141.out 5).trans rfl
                        have hfz28_0 := blk_frozen BK141.out 0
                        have hfz28_1 := blk_frozen BK141.out 1
                        have hfz28_2 := blk_frozen BK141.out 2
                        have hfz28_3 := blk_frozen BK141.out 3
                        have hfz28_4 := blk_frozen BK141.out 4
                        have hfz28_5 := blk_frozen BK141.out 5
                        go_wp2
                        go_ret
                        exact ⟨by first | rfl | (simp [errW_none, errW_some] <;> rfl) | (simp [*, errW_none, errW_some] <;> rfl), by repeat (first | (with_reducible first | exact HB.out | apply below_alloc | apply pw_below_drewN | apply below_drew1 | refine below_set ?_ GE141.out) | exact HB.out)⟩
                      · rw [if_neg c27] at H
                        have c27b0 : (a1 == t135) = false := beq_eq_false_iff_ne.mpr c27
                        have c27b1 : (a1 != t135) = true := bne_iff_ne.mpr c27
                        by_cases c29 : a1 = t136
                        · rw [if_pos c29] at H
                          have c29b0 : (a1 == t136) = true := beq_iff_eq.mpr c29
                          have c29b1 : (a1 != t136) = false := bne_eq_false_iff_eq.mpr c29
                          clear c29
                          obtain rfl := Option.some.inj H
                          have hcz30_0 : wc.cell? ⟨gb141, 0, none⟩ = some (.bool t134) := (blk_cell BK141.out 0).trans rfl
                          have hcz30_1 : wc.cell? ⟨gb141, 1, none⟩ = some (.int .u8 t135) := (blk_cell BK141.out 1).trans rfl
                          have hcz30_2 : wc.cell? ⟨gb141, 2, none⟩ = some (.int .u8 t136) := (blk_cell BK141.out 2).trans rfl
                          have hcz30_3 : wc.cell? ⟨gb141, 3, none⟩ = some (.int .u8 t137) := (blk_cell BK141.out 3).trans rfl
                          have hcz30_4 : wc.cell? ⟨gb141, 4, none⟩ = some (.int .u8 t138) := (blk_cell BK141.out 4).trans rfl
                          have hcz30_5 : wc.cell? ⟨gb141, 5, none⟩ = some (.int .u8 t139) := (blk_cell BK141.out 5).trans rfl
                          have hfz30_0 := blk_frozen BK141.out 0
                          have hfz30_1 := blk_frozen BK141.out 1
                          have hfz30_2 := blk_frozen BK141.out 2
                          have hfz30_3 := blk_frozen BK141.out 3
                          have hfz30_4 := blk_frozen BK141.out 4
                          have hfz30_5 := blk_frozen BK141.out 5
                          go_wp2
                          go_ret
                          exact ⟨by first | rfl | (simp [errW_none, errW_some] <;> rfl) | (simp [*, errW_none, errW_some] <;> rfl), by repeat (first | (with_reducible first | exact HB.out | apply below_alloc | apply pw_below_drewN | apply below_drew1 | refine below_set ?_ GE141.out) | exact HB.out)⟩
                        · rw [if_neg c29] at H
                          have c29b0 : (a1 == t136) = false := beq_eq_false_iff_ne.mpr c29
                          have c29b1 : (a1 != t136) = true := bne_iff_ne.mpr c29
                          by_cases c31 : a1 = t137
                          · rw [if_pos c31] at H
                            have c31b0 : (a1 == t137) = true := beq_iff_eq.mpr c31
                            have c31b1 : (a1 != t137) = false := bne_eq_false_iff_eq.mpr c31
                            clear c31
                            obtain rfl := Option.some.inj H
                            have hcz32_0 : wc.cell? ⟨gb141, 0, none⟩ = some (.bool t134) := (blk_cell BK141.out 0).trans rfl
                            have hcz32_1 : wc.cell? ⟨gb141, 1, none⟩ = some (.int .u8 t135) := (blk_cell BK141.out 1).trans rfl
                            have hcz32_2 : wc.cell? ⟨gb141, 2, none⟩ = some (.int .u8 t136) := (blk_cell BK141.out 2).trans rfl
                            have hcz32_3 : wc.cell? ⟨gb141, 3, none⟩ = some (.int .u8 t137) := (blk_cell BK141.out 3).trans rfl
                            have hcz32_4 : wc.cell? ⟨gb141, 4, none⟩ = some (.int .u8 t138) := (blk_cell BK141.out 4).trans rfl
                            have hcz32_5 : wc.cell? ⟨gb141, 5, none⟩ = some (.int .u8 t139) := (blk_cell BK141.out 5).trans rfl
                            have hfz32_0 := blk_frozen BK141.out 0
                            have hfz32_1 := blk_frozen BK141.out 1
                            have hfz32_2 := blk_frozen BK141.out 2
                            have hfz32_3 := blk_frozen BK141.out 3
                            have hfz32_4 := blk_frozen BK141.out 4
                            have hfz32_5 := blk_frozen BK141.out 5
                            go_wp2
                            go_ret
                            exact ⟨by first | rfl | (simp [errW_none, errW_some] <;> rfl) | (simp [*, errW_none, errW_some] <;> rfl), by repeat (first | (with_reducible first | exact HB.out | apply below_alloc | apply pw_below_drewN | apply below_drew1 | refine below_set ?_ GE141.out) | exact HB.out)⟩
                          · rw [if_neg c31] at H
                            have c31b0 : (a1 == t137) = false := beq_eq_false_iff_ne.mpr c31
                            have c31b1 : (a1 != t137) = true := bne_iff_ne.mpr c31
                            by_cases c33 : a1 = t138
                            · rw [if_pos c33] at H
                              have c33b0 : (a1 == t138) = true := beq_iff_eq.mpr c33
                              have c33b1 : (a1 != t138) = false := bne_eq_false_iff_eq.mpr c33
                              clear c33
                              obtain rfl := Option.some.inj H
                              have hcz34_0 : wc.cell? ⟨gb141, 0, none⟩ = some (.bool t134) := (blk_cell BK141.out 0).trans rfl
                              have hcz34_1 : wc.cell? ⟨gb141, 1, none⟩ = some (.int .u8 t135) := (blk_cell BK141.out 1).trans rfl
                              have hcz34_2 : wc.cell? ⟨gb141, 2, none⟩ = some (.int .u8 t136) := (blk_cell BK141.out 2).trans rfl
                              have hcz34_3 : wc.cell? ⟨gb141, 3, none⟩ = some (.int .u8 t137) := (blk_cell BK141.out 3).trans rfl
                              have hcz34_4 : wc.cell? ⟨gb141, 4, none⟩ = some (.int .u8 t138) := (blk_cell BK141.out 4).trans rfl
                              have hcz34_5 : wc.cell? ⟨gb141, 5, none⟩ = some (.int .u8 t139) := (blk_cell BK141.out 5).trans rfl
                              have hfz34_0 := blk_frozen BK141.out 0
                              have hfz34_1 := blk_frozen BK141.out 1
                              have hfz34_2 := blk_frozen BK141.out 2
                              have hfz34_3 := blk_frozen BK141.out 3
                              have hfz34_4 := blk_frozen BK141.out 4
                              have hfz34_5 := blk_frozen BK141.out 5
                              go_wp2
                              go_ret
                              exact ⟨by first | rfl | (simp [errW_none, errW_some] <;> rfl) | (simp [*, errW_none, errW_some] <;> rfl), by repeat (first | (with_reducible first | exact HB.out | apply below_alloc | apply pw_below_drewN | apply below_drew1 | refine below_set ?_ GE141.out) | exact HB.out)⟩
                            · rw [if_neg c33] at H
                              have c33b0 : (a1 == t138) = false := beq_eq_false_iff_ne.mpr c33
                              have c33b1 : (a1 != t138) = true := bne_iff_ne.mpr c33
                              by_cases c35 : a1 = t139
                              · rw [if_pos c35] at H
                                have c35b0 : (a1 == t139) = true := beq_iff_eq.mpr c35
                                have c35b1 : (a1 != t139) = false := bne_eq_false_iff_eq.mpr c35
                                clear c35
                                obtain rfl := Option.some.inj H
                                have hcz36_0 : wc.cell? ⟨gb141, 0, none⟩ = some (.bool t134) := (blk_cell BK141.out 0).trans rfl
                                have hcz36_1 : wc.cell? ⟨gb141, 1, none⟩ = some (.int .u8 t135) := (blk_cell BK141.out 1).trans rfl
                                have hcz36_2 : wc.cell? ⟨gb141, 2, none⟩ = some (.int .u8 t136) := (blk_cell BK141.out 2).trans rfl
                                have hcz36_3 : wc.cell? ⟨gb141, 3, none⟩ = some (.int .u8 t137) := (blk_cell BK141.out 3).trans rfl
                                have hcz36_4 : wc.cell? ⟨gb141, 4, none⟩ = some (.int .u8 t138) := (blk_cell BK141.out 4).trans rfl
                                have hcz36_5 : wc.cell? ⟨gb141, 5, none⟩ = some (.int .u8 t139) := (blk_cell BK141.out 5).trans rfl
                                have hfz36_0 := blk_frozen BK141.out 0
                                have hfz36_1 := blk_frozen BK141.out 1
                                have hfz36_2 := blk_frozen BK141.out 2
                                have hfz36_3 := blk_frozen BK141.out 3
                                have hfz36_4 := blk_frozen BK141.out 4
                                have hfz36_5 := blk_frozen BK141.out 5
                                go_wp2
                                go_ret
                                exact ⟨by first | rfl | (simp [errW_none, errW_some] <;> rfl) | (simp [*, errW_none, errW_some] <;> rfl), by repeat (first | (with_reducible first | exact HB.out | apply below_alloc | apply pw_below_drewN | apply below_drew1 | refine below_set ?_ GE141.out) | exact HB.out)⟩
                              · rw [if_neg c35] at H
                                have c35b0 : (a1 == t139) = false := beq_eq_false_iff_ne.mpr c35
                                have c35b1 : (a1 != t139) = true := bne_iff_ne.mpr c35
                                obtain rfl := Option.some.inj H
                                have hcz37_0 : wc.cell? ⟨gb141, 0, none⟩ = some (.bool t134) := (blk_cell BK141.out 0).trans rfl
                                have hcz37_1 : wc.cell? ⟨gb141, 1, none⟩ = some (.int .u8 t135) := (blk_cell BK141.out 1).trans rfl
                                have hcz37_2 : wc.cell? ⟨gb141, 2, none⟩ = some (.int .u8 t136) := (blk_cell BK141.out 2).trans rfl
                                have hcz37_3 : wc.cell? ⟨gb141, 3, none⟩ = some (.int .u8 t137) := (blk_cell BK141.out 3).trans rfl
                                have hcz37_4 : wc.cell? ⟨gb141, 4, none⟩ = some (.int .u8 t138) := (blk_cell BK141.out 4).trans rfl
                                have hcz37_5 : wc.cell? ⟨gb141, 5, none⟩ = some (.int .u8 t139) := (blk_cell BK141.out 5).trans rfl
                                have hfz37_0 := blk_frozen BK141.out 0
                                have hfz37_1 := blk_frozen BK141.out 1
                                have hfz37_2 := blk_frozen BK141.out 2
                                have hfz37_3 := blk_frozen BK141.out 3
                                have hfz37_4 := blk_frozen BK141.out 4
                                have hfz37_5 := blk_frozen BK141.out 5
                                go_wp2
                                go_ret
                                exact ⟨by first | rfl | (simp [errW_none, errW_some] <;> rfl) | (simp [*, errW_none, errW_some] <;> rfl), by repeat (first | (with_reducible first | exact HB.out | apply below_alloc | apply pw_below_drewN | apply below_drew1 | refine below_set ?_ GE141.out) | exact HB.out)⟩

end Go.Proofs.YtgcaelopcdpkgaaDoor.PBase
