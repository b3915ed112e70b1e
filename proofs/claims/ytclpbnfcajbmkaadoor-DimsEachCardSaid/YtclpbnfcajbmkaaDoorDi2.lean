/- dims.Right: whether all powers lie between -99 and 99. No conditions. -/
import Derived.Test.YtclpbnfcajbmkaaDoorDi1
namespace Go.Proofs.YtclpbnfcajbmkaaDoor.Di
open Go Go.RowKit Go.Shelf Go.Proofs
attribute [local go_sem] Oper.semAt_some
set_option linter.unusedVariables false
theorem blk_new_ (W : World) (o : Obj) : (W.alloc o).heap[W.heap.size]? = some o := Array.getElem?_push_size
def rAll (l : List (Nat × Int)) : Bool := l.all fun x => decide (-99 ≤ x.2) && decide (x.2 ≤ 99)
theorem rAll_snoc (l : List (Nat × Int)) (x : Nat × Int) : rAll (l ++ [x]) = (rAll l && (decide (-99 ≤ x.2) && decide (x.2 ≤ 99))) := by simp [rAll]
theorem nz_pre (a : List Int) (k : Nat) : ∀ d, ∃ r, nz a (k + d) = nz a k ++ r
  | 0 => ⟨[], by simp⟩
  | d + 1 => by
    obtain ⟨r, hr⟩ := nz_pre a k d
    show ∃ r, (if a[k + d]?.getD 0 = 0 then nz a (k + d) else nz a (k + d) ++ [(k + d, a[k + d]?.getD 0)]) = nz a k ++ r
    split
    · exact ⟨r, hr⟩
    · exact ⟨r ++ [_], by rw [hr, List.append_assoc]⟩
theorem nz_false (a : List Int) (p : Nat × Int → Bool) (k m : Nat) (h : k ≤ m) (e : (nz a k).all p = false) : (nz a m).all p = false := by
  obtain ⟨r, hr⟩ := nz_pre a k (m - k)
  rw [show k + (m - k) = m from by omega] at hr
  rw [hr, List.all_append, e]
  rfl
set_option maxRecDepth 100000 in
set_option maxHeartbeats 4000000 in
theorem right_in (F : Fence) (n : Nat) (h13 : F.fn 13) (h14 : F.fn 14) (h26 : F.fn 26) (hro : F.round = none) (hn : 3 ≤ n) (a0 a1 a2 a3 a4 a5 a6 : Int) (w : World) :
    CallsIn F n Tryd.prog 13 #[.agg (seven a0 a1 a2 a3 a4 a5 a6)] w fun e W' => e = .returned (.bool (allR [a0, a1, a2, a3, a4, a5, a6])) ∧ Below w.heap.size w W' := by
  have h1 : 1 ≤ n := by omega
  have hall : allR [a0, a1, a2, a3, a4, a5, a6] = rAll (nz [a0, a1, a2, a3, a4, a5, a6] 7) := by
    unfold rAll
    rw [nz_all [a0, a1, a2, a3, a4, a5, a6] (fun x => decide (-99 ≤ x) && decide (x ≤ 99)) (by decide) 7 (by simp)]
    rfl
  rw [hall]
  clear hall
  refine callsIn_of_wp_marks Tryd.func13 rfl h13 ?_ hro
  simp only [Tryd.ntmps13, List.size_toArray, List.length_cons, List.length_nil, Nat.reduceAdd, Nat.reduceSub, Array.replicate_succ, Array.replicate_zero, List.push_toArray, List.append_toArray, List.nil_append, List.cons_append]
  unfold seven
  gi_wp2_with (gi_at_call 14; refine (each_in F (n - 1) h14 hro a0 a1 a2 a3 a4 a5 a6 _).mono ?_; rintro e w' ⟨rfl, rfl⟩)
  obtain ⟨w1, hw1⟩ : ∃ w1, w.alloc (.cells #[.int .i64 a0, .int .i64 a1, .int .i64 a2, .int .i64 a3, .int .i64 a4, .int .i64 a5, .int .i64 a6] 23) = w1 := ⟨_, rfl⟩
  have hs1 : w1.heap.size = w.heap.size + 1 := by rw [← hw1, World.size_alloc]
  have hB1 : Below w.heap.size w w1 := by rw [← hw1]; exact (Below.refl _ w).alloc (Nat.le_refl _) _
  rw [hw1]
  clear hw1
  have bR := Boxed.new w1 4 (.bool false)
  rw [hs1] at bR
  have hB2 : Below w.heap.size w (w1.alloc (.cells #[.bool false] 4)) := hB1.alloc (by omega) _
  have hs2 : (w1.alloc (.cells #[.bool false] 4)).heap.size = w.heap.size + 2 := by rw [World.size_alloc, hs1]
  have hB3 : Below w.heap.size w ((w1.alloc (.cells #[.bool false] 4)).alloc (.cells (seven a0 a1 a2 a3 a4 a5 a6) 23)) := hB2.alloc (by omega) _
  have bE := blk_new_ (w1.alloc (.cells #[.bool false] 4)) (.cells (seven a0 a1 a2 a3 a4 a5 a6) 23)
  rw [hs2] at bE
  refine wpIn_rangeFunc_ownG hro h1 (gf := 26) (lb := #[.pointer (some ⟨w.heap.size + 1 + 1, 0, none⟩)]) rfl h26 (enters_of Tryd.func26 (by kernel_rfl) rfl)
    (each_stops F (n - 1) h26 hro (by omega) (w.heap.size + 1 + 1) w.heap.size a0 a1 a2 a3 a4 a5 a6 _ (by rw [World.size_alloc]; omega) (by rw [World.size_alloc]; omega) bE) belowK_t (belowK_b (by rw [World.size_alloc]; omega)) (Below.refl _ _) (fun _ => rfl)
    (fun pre W => (rAll pre = true ∧ W.cell? ⟨w.heap.size + 1, 0, none⟩ = some (.bool false) ∧ W.frozen? ⟨w.heap.size + 1, 0, none⟩ = false) ∧ Below w.heap.size w W)
    (fun c pre W => (c = .ret ∧ rAll pre = false ∧ W.cell? ⟨w.heap.size + 1, 0, none⟩ = some (.bool false)) ∧ Below w.heap.size w W)
    (OwnFrom.and (Own.from (fun s A B row hs hg hr => ⟨hs.1, cell_kept hs.2.1 hg hr, (frozen_kept hs.2.1 hg hr).trans hs.2.2⟩) _) (ownFrom_below (Nat.le_refl _) (by rw [World.size_alloc]; omega)))
    (fun c => OwnFrom.and (Own.from (fun s A B row hs hg hr => ⟨hs.1, hs.2.1, cell_kept hs.2.2 hg hr⟩) _) (ownFrom_below (Nat.le_refl _) (by rw [World.size_alloc]; omega)))
    ⟨⟨rfl, (bR.alloc _).cell, (bR.alloc _).frozen⟩, hB3⟩
    (fun x => { tmps := #[.agg #[.int .i64 a0, .int .i64 a1, .int .i64 a2, .int .i64 a3, .int .i64 a4, .int .i64 a5, .int .i64 a6], .pointer (some ⟨w.heap.size, 0, none⟩), .pointer (some ⟨w.heap.size + 1, 0, none⟩), undef, .int .i64 x.2, .agg #[.int .i64 a0, .int .i64 a1, .int .i64 a2, .int .i64 a3, .int .i64 a4, .int .i64 a5, .int .i64 a6], .func (.func 26) #[] #[.pointer (some ⟨w.heap.size + 1 + 1, 0, none⟩)], .int .i64 (x.1 : Int), .int .i64 x.2, undef, undef, undef, undef, undef, undef], defers := [] }) ?assign ?body ?done ?stop
  case assign =>
    intro l x W K hK
    gi_wp2
    exact hK
  case body =>
    rintro l pre x W ⟨⟨hp, hcr, hfr⟩, hB⟩ _
    have hle : w.heap.size ≤ w.heap.size + 1 := by omega
    gi_wp2
    all_goals first
      | (refine ⟨(KeepsOthers.setCell _ _ _).from _, ⟨rfl, ?_, World.cell?_setCell_same' _ _ _ (by rw [hcr]; rfl)⟩, hB.setCell (p := ⟨w.heap.size + 1, 0, none⟩) hle _⟩
         rw [rAll_snoc, hp]
         simp only [Bool.true_and, Bool.and_eq_false_iff, decide_eq_false_iff_not]
         omega)
      | (refine ⟨KeepsFrom.refl _ _, Below.refl _ _, ⟨?_, hcr, hfr⟩, hB⟩
         rw [rAll_snoc, hp]
         simp only [Bool.true_and, Bool.and_eq_true, decide_eq_true_eq]
         omega)
  case done =>
    rintro D ys W hD rfl ⟨⟨hne, hcr, hfr⟩, hB⟩ hK
    have hle : w.heap.size ≤ w.heap.size + 1 := by omega
    have hD' : w.heap.size ≤ D := by rw [World.size_alloc] at hD; omega
    gi_wp2
    have hK' := (KeepsOthers.setCell W ⟨w.heap.size + 1, 0, none⟩ (.bool true)).same D _ hK rfl
    refine ⟨by simp, .inl ⟨_, _, rfl, run_takeDeferred hK', ?_⟩⟩
    have hc5 := cell_kept (World.cell?_setCell_same' W ⟨w.heap.size + 1, 0, none⟩ (.bool true) (by rw [hcr]; rfl)) (grownBy_putObj' _ D (.deferred none)) (fun r e => by cases e; exact ⟨_, hK', rfl⟩)
    refine ⟨.bool true, ?_, by rw [hne], (hB.setCell (p := ⟨w.heap.size + 1, 0, none⟩) hle _).trans (belowK_b (w := w) (Nat.le_refl _) _ D _ _ hD' hK' rfl rfl)⟩
    simp [results, Tryd.f13, go_sem, hc5]
  case stop =>
    rintro D c pre W hD ⟨k, hk, rfl⟩ ⟨⟨rfl, e1, hcr⟩, hB⟩ hK
    have hD' : w.heap.size ≤ D := by rw [World.size_alloc] at hD; omega
    gi_wp2
    refine ⟨by simp, .inl ⟨_, _, rfl, run_takeDeferred hK, ?_⟩⟩
    have hc5 := cell_kept hcr (grownBy_putObj' _ D (.deferred none)) (fun r e => by cases e; exact ⟨_, hK, rfl⟩)
    refine ⟨.bool false, ?_, ?_, hB.trans (belowK_b (w := w) (Nat.le_refl _) W D _ _ hD' hK rfl rfl)⟩
    · simp [results, Tryd.f13, go_sem, hc5]
    · have := nz_false _ _ k 7 hk e1
      rw [show rAll (nz [a0, a1, a2, a3, a4, a5, a6] 7) = false from this]
end Go.Proofs.YtclpbnfcajbmkaaDoor.Di
namespace Go.Proofs.YtclpbnfcajbmkaaDoor
open Go Go.RowKit Go.Proofs.YtclpbnfcajbmkaaDoor.Di
def dims_Right.f (a0_0 a0_1 a0_2 a0_3 a0_4 a0_5 a0_6 : Int) : Option Bool := some (allR [a0_0, a0_1, a0_2, a0_3, a0_4, a0_5, a0_6])
theorem dims_Right.calls (a0_0 a0_1 a0_2 a0_3 a0_4 a0_5 a0_6 : Int) (r : Bool) (w : World) (h : dims_Right.f a0_0 a0_1 a0_2 a0_3 a0_4 a0_5 a0_6 = some r) :
    Calls Tryd.prog 13 #[.agg #[.int .i64 a0_0, .int .i64 a0_1, .int .i64 a0_2, .int .i64 a0_3, .int .i64 a0_4, .int .i64 a0_5, .int .i64 a0_6]] w fun e w' => e = .returned (.bool r) ∧ Below w.heap.size w w' := by
  obtain rfl := Option.some.inj h
  exact callsIn_wide.1 (right_in Fence.wide 3 trivial trivial trivial rfl (by omega) a0_0 a0_1 a0_2 a0_3 a0_4 a0_5 a0_6 w)
end Go.Proofs.YtclpbnfcajbmkaaDoor
