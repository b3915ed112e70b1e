/- dims.Each: its closure over seven numbers, for every loop body. Conditions: those of the body. -/
import Derived.KernelRfl
import Derived.RangeFuncNested
import Derived.RangeFuncBound
import Derived.RangeFuncCalls
import Derived.RangeFuncLeaves
import Derived.RangeFuncBox
import Derived.Shelf.Abstract
import Derived.Shelf.RegionOpen
import Derived.WalkKit
import Derived.OwnWalkIn
import Derived.TacticsInMore
import Derived.LoopNIn
import Derived.LoopIn
import Derived.Test.YthfibffgmoblaaaDoorProg
namespace Go.Proofs.YthfibffgmoblaaaDoor.Di
open Go Go.RowKit Go.Shelf Go.Proofs
attribute [local go_sem] Oper.semAt_some
set_option linter.unusedVariables false
/-- The powers that are not 0 among the first k. -/
def nz (a : List Int) : Nat → List (Nat × Int)
  | 0 => []
  | k + 1 => if a[k]?.getD 0 = 0 then nz a k else nz a k ++ [(k, a[k]?.getD 0)]
theorem nz_len (a : List Int) : ∀ k, (nz a k).length ≤ k
  | 0 => Nat.le_refl _
  | k + 1 => by
    have := nz_len a k
    unfold nz
    split
    · omega
    · simp; omega
def seven (a0 a1 a2 a3 a4 a5 a6 : Int) : Array Value := #[.int .i64 a0, .int .i64 a1, .int .i64 a2, .int .i64 a3, .int .i64 a4, .int .i64 a5, .int .i64 a6]
set_option maxRecDepth 100000 in
theorem index7 (a0 a1 a2 a3 a4 a5 a6 : Int) (k : Nat) (hk : k < 7) (W : World) : (Instr.index 23 (.agg #[.int .i64 a0, .int .i64 a1, .int .i64 a2, .int .i64 a3, .int .i64 a4, .int .i64 a5, .int .i64 a6]) (.int .i64 (k : Int))).run Tryd.prog W = .ok (.int .i64 ([a0, a1, a2, a3, a4, a5, a6][k]?.getD 0)) W := by
  have h : k = 0 ∨ k = 1 ∨ k = 2 ∨ k = 3 ∨ k = 4 ∨ k = 5 ∨ k = 6 := by omega
  rcases h with rfl | rfl | rfl | rfl | rfl | rfl | rfl <;> first | kernel_rfl | rfl
set_option maxRecDepth 100000 in
set_option maxHeartbeats 2000000 in
theorem each1_in (F : Fence) (n : Nat) (hf : F.fn 81) (hro : F.round = none) (hn : 1 ≤ n) (l Bs n₀ : Nat) (a0 a1 a2 a3 a4 a5 a6 : Int) (J Jx : List (Nat × Int) → World → Prop)
    (hY : ∀ pre x W, J pre W → pre.length < 7 → (x.1 < 7 ∧ [a0, a1, a2, a3, a4, a5, a6][x.1]?.getD 0 = x.2) → YieldAt F (n - 1) Tryd.prog l #[.int .i64 (x.1 : Int), .int .i64 x.2] W fun e W' =>
      (e = .returned (.bool true) ∧ J (pre ++ [x]) W' ∧ Below n₀ W W') ∨ (e = .returned (.bool false) ∧ Jx (pre ++ [x]) W'))
    (W : World) (hBs : W.heap[Bs]? = some (.cells (seven a0 a1 a2 a3 a4 a5 a6) 23 (0, 0))) (h0 : J [] W) :
    CallsIn F n Tryd.prog 81 #[.func (.yield l) #[] #[], .pointer (some ⟨Bs, 0, none⟩)] W fun e W' => (∃ v, e = .returned v) ∧
      ((∃ ys, ys = nz [a0, a1, a2, a3, a4, a5, a6] 7 ∧ J ys W') ∨ (∃ pre, (∃ k, k ≤ 7 ∧ pre = nz [a0, a1, a2, a3, a4, a5, a6] k) ∧ Jx pre W')) := by
  have c : ∀ i, W.cell? ⟨Bs, i, none⟩ = (seven a0 a1 a2 a3 a4 a5 a6)[i]? := fun i => cell_of_row W Bs i _ _ (0, 0) hBs
  have c0 : W.cell? ⟨Bs, 0, none⟩ = some (.int .i64 a0) := (c 0).trans rfl
  have c1 : W.cell? ⟨Bs, 1, none⟩ = some (.int .i64 a1) := (c 1).trans rfl
  have c2 : W.cell? ⟨Bs, 2, none⟩ = some (.int .i64 a2) := (c 2).trans rfl
  have c3 : W.cell? ⟨Bs, 3, none⟩ = some (.int .i64 a3) := (c 3).trans rfl
  have c4 : W.cell? ⟨Bs, 4, none⟩ = some (.int .i64 a4) := (c 4).trans rfl
  have c5 : W.cell? ⟨Bs, 5, none⟩ = some (.int .i64 a5) := (c 5).trans rfl
  have c6 : W.cell? ⟨Bs, 6, none⟩ = some (.int .i64 a6) := (c 6).trans rfl
  clear c
  refine callsIn_of_wp Tryd.func81 rfl hf ?_ hro
  simp only [Tryd.ntmps81, List.size_toArray, List.length_cons, List.length_nil, Nat.reduceAdd, Nat.reduceSub, Array.replicate_succ, Array.replicate_zero, List.push_toArray, List.append_toArray, List.nil_append, List.cons_append]
  gi_wp2
  clear c0 c1 c2 c3 c4 c5 c6
  gi_loopw [6] (fun i wr => ∃ k : Nat, k ≤ 7 ∧ i = .int .i64 k ∧ J (nz [a0, a1, a2, a3, a4, a5, a6] k) wr)
    (fun i _ => 7 - (intOf i).toNat)
  case atStart => exact ⟨0, Nat.zero_le _, rfl, h0⟩
  case round =>
    obtain ⟨k, hk, rfl, hJs⟩ := hrel
    by_cases hlt : k < 7
    · have hix := index7 a0 a1 a2 a3 a4 a5 a6 k hlt
      obtain ⟨v, hv⟩ : ∃ v, [a0, a1, a2, a3, a4, a5, a6][k]?.getD 0 = v := ⟨_, rfl⟩
      rw [hv] at hix
      have hnz : nz [a0, a1, a2, a3, a4, a5, a6] (k + 1) = if v = 0 then nz [a0, a1, a2, a3, a4, a5, a6] k else nz [a0, a1, a2, a3, a4, a5, a6] k ++ [(k, v)] := by
        show (if [a0, a1, a2, a3, a4, a5, a6][k]?.getD 0 = 0 then _ else _ ++ [(k, [a0, a1, a2, a3, a4, a5, a6][k]?.getD 0)]) = _
        rw [hv]
      by_cases hv0 : v = 0
      · subst hv0
        rw [if_pos rfl] at hnz
        gi_wp2
        refine ⟨fun _ h => (by cases h), ?_⟩
        gi_wp2
        go_roundw
        case rel => exact ⟨k + 1, by omega, by simp, by rw [hnz]; exact hJs⟩
        case measure => simp [intOf]; omega
      · rw [if_neg hv0] at hnz
        obtain ⟨fn, tmps, assign, body, hy, hR⟩ := hY _ (k, v) wr hJs (by have := nz_len [a0, a1, a2, a3, a4, a5, a6] k; omega) ⟨hlt, hv⟩
        dsimp only at hy
        gi_wp2
        refine hR.mono ?_
        rintro e W3 (⟨rfl, hJ3, hk3⟩ | ⟨rfl, hJx3⟩)
        · gi_wp2
          go_roundw
          case rel => exact ⟨k + 1, by omega, by simp, by rw [hnz]; exact hJ3⟩
          case measure => simp [intOf]; omega
        · gi_wp2
          refine bodyPost_ret (results_none rfl _ _ _) rfl ?_
          exact ⟨⟨_, rfl⟩, .inr ⟨_, ⟨k + 1, by omega, hnz.symm⟩, hJx3⟩⟩
    · obtain rfl : k = 7 := by omega
      gi_wp2
      go_end0
      exact ⟨⟨_, rfl⟩, .inl ⟨_, rfl, hJs⟩⟩
set_option maxRecDepth 100000 in
set_option maxHeartbeats 1000000 in
theorem each_in (F : Fence) (n : Nat) (hf : F.fn 53) (hro : F.round = none) (a0 a1 a2 a3 a4 a5 a6 : Int) (w : World) :
    CallsIn F n Tryd.prog 53 #[.agg (seven a0 a1 a2 a3 a4 a5 a6)] w fun e w' => e = .returned (.func (.func 81) #[] #[.pointer (some ⟨w.heap.size, 0, none⟩)]) ∧ w' = w.alloc (.cells (seven a0 a1 a2 a3 a4 a5 a6) 23) := by
  unfold seven
  refine callsIn_of_wp Tryd.func53 rfl hf ?_ hro
  simp only [Tryd.ntmps53, List.size_toArray, List.length_cons, List.length_nil, Nat.reduceAdd, Nat.reduceSub, Array.replicate_succ, Array.replicate_zero, List.push_toArray, List.append_toArray, List.nil_append, List.cons_append]
  gi_wp2
  go_ret
  exact ⟨rfl, rfl⟩
theorem each_stops (F : Fence) (n : Nat) (hf : F.fn 81) (hro : F.round = none) (hn : 1 ≤ n) (Bs n₀ : Nat) (a0 a1 a2 a3 a4 a5 a6 : Int) (w : World) (hBs : Bs < w.heap.size) (hn₀ : n₀ ≤ w.heap.size)
    (hc : w.heap[Bs]? = some (.cells (seven a0 a1 a2 a3 a4 a5 a6) 23 (0, 0))) :
    SeqStopsK F n Tryd.prog 81 #[.pointer (some ⟨Bs, 0, none⟩)] (fun x : Nat × Int => #[Value.int .i64 (x.1 : Int), Value.int .i64 x.2]) (Below n₀) (fun ys => ys = nz [a0, a1, a2, a3, a4, a5, a6] 7)
      (fun pre => ∃ k, k ≤ 7 ∧ pre = nz [a0, a1, a2, a3, a4, a5, a6] k) 7 w := fun l J Jx W hW _ _ hY h0 =>
  each1_in F n hf hro hn l Bs n₀ a0 a1 a2 a3 a4 a5 a6 J Jx (fun pre x W h1 h2 _ => hY pre x W h1 h2) W ((hW.block Bs hBs).trans hc) h0
/-- What may be told of seven numbers: a place, and the number that stands there. -/
abbrev At7 (a : List Int) : Type := { x : Nat × Int // x.1 < 7 ∧ a[x.1]?.getD 0 = x.2 }
theorem each_stops2 (F : Fence) (n : Nat) (hf : F.fn 81) (hro : F.round = none) (hn : 1 ≤ n) (Bs n₀ : Nat) (a0 a1 a2 a3 a4 a5 a6 : Int) (w : World) (hBs : Bs < w.heap.size) (hn₀ : n₀ ≤ w.heap.size)
    (hc : w.heap[Bs]? = some (.cells (seven a0 a1 a2 a3 a4 a5 a6) 23 (0, 0))) :
    SeqStopsK F n Tryd.prog 81 #[.pointer (some ⟨Bs, 0, none⟩)] (fun x : At7 [a0, a1, a2, a3, a4, a5, a6] => #[Value.int .i64 (x.1.1 : Int), Value.int .i64 x.1.2]) (Below n₀) (fun ys => ys.map Subtype.val = nz [a0, a1, a2, a3, a4, a5, a6] 7)
      (fun pre => ∃ k, k ≤ 7 ∧ pre.map Subtype.val = nz [a0, a1, a2, a3, a4, a5, a6] k) 7 w := fun l J Jx W hW _ _ hY h0 => by
  refine (each1_in F n hf hro hn l Bs n₀ a0 a1 a2 a3 a4 a5 a6 (fun pre W => ∃ q : List (At7 [a0, a1, a2, a3, a4, a5, a6]), q.map Subtype.val = pre ∧ J q W) (fun pre W => ∃ q : List (At7 [a0, a1, a2, a3, a4, a5, a6]), q.map Subtype.val = pre ∧ Jx q W) ?_ W ((hW.block Bs hBs).trans hc) ⟨[], rfl, h0⟩).mono ?_
  · rintro pre x W ⟨q, rfl, hJ⟩ hl hx
    obtain ⟨fn, tmps, assign, body, hy, hR⟩ := hY q ⟨x, hx⟩ W hJ (by simpa using hl)
    refine ⟨fn, tmps, assign, body, hy, hR.mono ?_⟩
    rintro e W' (⟨rfl, h1, h2⟩ | ⟨rfl, h1⟩)
    · exact .inl ⟨rfl, ⟨_, by simp, h1⟩, h2⟩
    · exact .inr ⟨rfl, _, by simp, h1⟩
  · rintro e W' ⟨hv, ⟨ys, e1, q, e2, hJ⟩ | ⟨pre, ⟨k, hk, e1⟩, q, e2, hJ⟩⟩
    · exact ⟨hv, .inl ⟨q, e2.trans e1, hJ⟩⟩
    · exact ⟨hv, .inr ⟨q, ⟨k, hk, e2.trans e1⟩, hJ⟩⟩
/-- All powers lie between -99 and 99. -/
def allR (l : List Int) : Bool := l.all fun x => decide (-99 ≤ x) && decide (x ≤ 99)
theorem nz_all (a : List Int) (p : Int → Bool) (h0 : p 0 = true) : ∀ k, k ≤ a.length → ((nz a k).all fun x => p x.2) = (a.take k).all p
  | 0, _ => by simp [nz]
  | k + 1, hk => by
    have ih := nz_all a p h0 k (by omega)
    have hlt : k < a.length := by omega
    have e : a[k]?.getD 0 = a[k] := by rw [List.getElem?_eq_getElem hlt]; rfl
    unfold nz
    rw [e, List.take_succ_eq_append_getElem hlt, List.all_append, ← ih]
    split
    · rename_i hz
      rw [hz]
      simp [h0]
    · simp
end Go.Proofs.YthfibffgmoblaaaDoor.Di
namespace Go.Proofs.YthfibffgmoblaaaDoor.Di
open Go Go.RowKit Go.Shelf Go.Proofs
attribute [local go_sem] Oper.semAt_some
set_option linter.unusedVariables false
theorem blk_new_ (W : World) (o : Obj) : (W.alloc o).heap[W.heap.size]? = some o := Array.getElem?_push_size
def rAll (l : List (Nat × Int)) : Bool := l.all fun x => decide (-99 ≤ x.2) && decide (x.2 ≤ 99)
theorem rAll_snoc (l : List (Nat × Int)) (x : Nat × Int) : rAll (l ++ [x]) = (rAll l && (decide (-99 ≤ x.2) && decide (x.2 ≤ 99))) := by simp [rAll]
theorem nz_pre (a : List Int) (k : Nat) : ∀ d, ∃ r, nz a (k + d) = nz a k ++ r
  | 0 => ⟨[], by simp⟩
  | d + 1 => by
    obtain ⟨r, hr⟩ := nz_pre a k d
    show ∃ r, (if a[k + d]?.getD 0 = 0 then nz a (k + d) else nz a (k + d) ++ [(k + d, a[k + d]?.getD 0)]) = nz a k ++ r
    split
    · exact ⟨r, hr⟩
    · exact ⟨r ++ [_], by rw [hr, List.append_assoc]⟩
theorem nz_false (a : List Int) (p : Nat × Int → Bool) (k m : Nat) (h : k ≤ m) (e : (nz a k).all p = false) : (nz a m).all p = false := by
  obtain ⟨r, hr⟩ := nz_pre a k (m - k)
  rw [show k + (m - k) = m from by omega] at hr
  rw [hr, List.all_append, e]
  rfl
set_option maxRecDepth 100000 in
set_option maxHeartbeats 4000000 in
theorem right_in (F : Fence) (n : Nat) (h13 : F.fn 48) (h14 : F.fn 53) (h26 : F.fn 81) (hro : F.round = none) (hn : 3 ≤ n) (a0 a1 a2 a3 a4 a5 a6 : Int) (w : World) :
    CallsIn F n Tryd.prog 48 #[.agg (seven a0 a1 a2 a3 a4 a5 a6)] w fun e W' => e = .returned (.bool (allR [a0, a1, a2, a3, a4, a5, a6])) ∧ Below w.heap.size w W' := by
  have h1 : 1 ≤ n := by omega
  have hall : allR [a0, a1, a2, a3, a4, a5, a6] = rAll (nz [a0, a1, a2, a3, a4, a5, a6] 7) := by
    unfold rAll
    rw [nz_all [a0, a1, a2, a3, a4, a5, a6] (fun x => decide (-99 ≤ x) && decide (x ≤ 99)) (by decide) 7 (by simp)]
    rfl
  rw [hall]
  clear hall
  refine callsIn_of_wp_marks Tryd.func48 rfl h13 ?_ hro
  simp only [Tryd.ntmps48, List.size_toArray, List.length_cons, List.length_nil, Nat.reduceAdd, Nat.reduceSub, Array.replicate_succ, Array.replicate_zero, List.push_toArray, List.append_toArray, List.nil_append, List.cons_append]
  unfold seven
  gi_wp2_with (gi_at_call 53; refine (each_in F (n - 1) h14 hro a0 a1 a2 a3 a4 a5 a6 _).mono ?_; rintro e w' ⟨rfl, rfl⟩)
  obtain ⟨w1, hw1⟩ : ∃ w1, w.alloc (.cells #[.int .i64 a0, .int .i64 a1, .int .i64 a2, .int .i64 a3, .int .i64 a4, .int .i64 a5, .int .i64 a6] 23) = w1 := ⟨_, rfl⟩
  have hs1 : w1.heap.size = w.heap.size + 1 := by rw [← hw1, World.size_alloc]
  have hB1 : Below w.heap.size w w1 := by rw [← hw1]; exact (Below.refl _ w).alloc (Nat.le_refl _) _
  rw [hw1]
  clear hw1
  have bR := Boxed.new w1 4 (.bool false)
  rw [hs1] at bR
  have hB2 : Below w.heap.size w (w1.alloc (.cells #[.bool false] 4)) := hB1.alloc (by omega) _
  have hs2 : (w1.alloc (.cells #[.bool false] 4)).heap.size = w.heap.size + 2 := by rw [World.size_alloc, hs1]
  have hB3 : Below w.heap.size w ((w1.alloc (.cells #[.bool false] 4)).alloc (.cells (seven a0 a1 a2 a3 a4 a5 a6) 23)) := hB2.alloc (by omega) _
  have bE := blk_new_ (w1.alloc (.cells #[.bool false] 4)) (.cells (seven a0 a1 a2 a3 a4 a5 a6) 23)
  rw [hs2] at bE
  refine wpIn_rangeFunc_ownG hro h1 (gf := 81) (lb := #[.pointer (some ⟨w.heap.size + 1 + 1, 0, none⟩)]) rfl h26 (enters_of Tryd.func81 (by kernel_rfl) rfl)
    (each_stops F (n - 1) h26 hro (by omega) (w.heap.size + 1 + 1) w.heap.size a0 a1 a2 a3 a4 a5 a6 _ (by rw [World.size_alloc]; omega) (by rw [World.size_alloc]; omega) bE) belowK_t (belowK_b (by rw [World.size_alloc]; omega)) (Below.refl _ _) (fun _ => rfl)
    (fun pre W => (rAll pre = true ∧ W.cell? ⟨w.heap.size + 1, 0, none⟩ = some (.bool false) ∧ W.frozen? ⟨w.heap.size + 1, 0, none⟩ = false) ∧ Below w.heap.size w W)
    (fun c pre W => (c = .ret ∧ rAll pre = false ∧ W.cell? ⟨w.heap.size + 1, 0, none⟩ = some (.bool false)) ∧ Below w.heap.size w W)
    (OwnFrom.and (Own.from (fun s A B row hs hg hr => ⟨hs.1, cell_kept hs.2.1 hg hr, (frozen_kept hs.2.1 hg hr).trans hs.2.2⟩) _) (ownFrom_below (Nat.le_refl _) (by rw [World.size_alloc]; omega)))
    (fun c => OwnFrom.and (Own.from (fun s A B row hs hg hr => ⟨hs.1, hs.2.1, cell_kept hs.2.2 hg hr⟩) _) (ownFrom_below (Nat.le_refl _) (by rw [World.size_alloc]; omega)))
    ⟨⟨rfl, (bR.alloc _).cell, (bR.alloc _).frozen⟩, hB3⟩
    (fun x => { tmps := #[.agg #[.int .i64 a0, .int .i64 a1, .int .i64 a2, .int .i64 a3, .int .i64 a4, .int .i64 a5, .int .i64 a6], .pointer (some ⟨w.heap.size, 0, none⟩), .pointer (some ⟨w.heap.size + 1, 0, none⟩), undef, .int .i64 x.2, .agg #[.int .i64 a0, .int .i64 a1, .int .i64 a2, .int .i64 a3, .int .i64 a4, .int .i64 a5, .int .i64 a6], .func (.func 81) #[] #[.pointer (some ⟨w.heap.size + 1 + 1, 0, none⟩)], .int .i64 (x.1 : Int), .int .i64 x.2, undef, undef, undef, undef, undef, undef], defers := [] }) ?assign ?body ?done ?stop
  case assign =>
    intro l x W K hK
    gi_wp2
    exact hK
  case body =>
    rintro l pre x W ⟨⟨hp, hcr, hfr⟩, hB⟩ _
    have hle : w.heap.size ≤ w.heap.size + 1 := by omega
    gi_wp2
    all_goals first
      | (refine ⟨(KeepsOthers.setCell _ _ _).from _, ⟨rfl, ?_, World.cell?_setCell_same' _ _ _ (by rw [hcr]; rfl)⟩, hB.setCell (p := ⟨w.heap.size + 1, 0, none⟩) hle _⟩
         rw [rAll_snoc, hp]
         simp only [Bool.true_and, Bool.and_eq_false_iff, decide_eq_false_iff_not]
         omega)
      | (refine ⟨KeepsFrom.refl _ _, Below.refl _ _, ⟨?_, hcr, hfr⟩, hB⟩
         rw [rAll_snoc, hp]
         simp only [Bool.true_and, Bool.and_eq_true, decide_eq_true_eq]
         omega)
  case done =>
    rintro D ys W hD rfl ⟨⟨hne, hcr, hfr⟩, hB⟩ hK
    have hle : w.heap.size ≤ w.heap.size + 1 := by omega
    have hD' : w.heap.size ≤ D := by rw [World.size_alloc] at hD; omega
    gi_wp2
    have hK' := (KeepsOthers.setCell W ⟨w.heap.size + 1, 0, none⟩ (.bool true)).same D _ hK rfl
    refine ⟨by simp, .inl ⟨_, _, rfl, run_takeDeferred hK', ?_⟩⟩
    have hc5 := cell_kept (World.cell?_setCell_same' W ⟨w.heap.size + 1, 0, none⟩ (.bool true) (by rw [hcr]; rfl)) (grownBy_putObj' _ D (.deferred none)) (fun r e => by cases e; exact ⟨_, hK', rfl⟩)
    refine ⟨.bool true, ?_, by rw [hne], (hB.setCell (p := ⟨w.heap.size + 1, 0, none⟩) hle _).trans (belowK_b (w := w) (Nat.le_refl _) _ D _ _ hD' hK' rfl rfl)⟩
    simp [results, Tryd.f48, go_sem, hc5]
  case stop =>
    rintro D c pre W hD ⟨k, hk, rfl⟩ ⟨⟨rfl, e1, hcr⟩, hB⟩ hK
    have hD' : w.heap.size ≤ D := by rw [World.size_alloc] at hD; omega
    gi_wp2
    refine ⟨by simp, .inl ⟨_, _, rfl, run_takeDeferred hK, ?_⟩⟩
    have hc5 := cell_kept hcr (grownBy_putObj' _ D (.deferred none)) (fun r e => by cases e; exact ⟨_, hK, rfl⟩)
    refine ⟨.bool false, ?_, ?_, hB.trans (belowK_b (w := w) (Nat.le_refl _) W D _ _ hD' hK rfl rfl)⟩
    · simp [results, Tryd.f48, go_sem, hc5]
    · have := nz_false _ _ k 7 hk e1
      rw [show rAll (nz [a0, a1, a2, a3, a4, a5, a6] 7) = false from this]
end Go.Proofs.YthfibffgmoblaaaDoor.Di
namespace Go.Proofs.YthfibffgmoblaaaDoor
open Go Go.RowKit Go.Proofs.YthfibffgmoblaaaDoor.Di
def dims_Right.f (a0_0 a0_1 a0_2 a0_3 a0_4 a0_5 a0_6 : Int) : Option Bool := some (allR [a0_0, a0_1, a0_2, a0_3, a0_4, a0_5, a0_6])
theorem dims_Right.calls (a0_0 a0_1 a0_2 a0_3 a0_4 a0_5 a0_6 : Int) (r : Bool) (w : World) (h : dims_Right.f a0_0 a0_1 a0_2 a0_3 a0_4 a0_5 a0_6 = some r) :
    Calls Tryd.prog 48 #[.agg #[.int .i64 a0_0, .int .i64 a0_1, .int .i64 a0_2, .int .i64 a0_3, .int .i64 a0_4, .int .i64 a0_5, .int .i64 a0_6]] w fun e w' => e = .returned (.bool r) ∧ Below w.heap.size w w' := by
  obtain rfl := Option.some.inj h
  exact callsIn_wide.1 (right_in Fence.wide 3 trivial trivial trivial rfl (by omega) a0_0 a0_1 a0_2 a0_3 a0_4 a0_5 a0_6 w)
end Go.Proofs.YthfibffgmoblaaaDoor
