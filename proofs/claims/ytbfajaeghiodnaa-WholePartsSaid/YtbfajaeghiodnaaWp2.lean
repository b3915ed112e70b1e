/- whole.Parts: its closure, for every loop body. Conditions: those of the body. -/
import Derived.RangeFuncNested
import Derived.RangeFuncBound
import Derived.RangeFuncCalls
import Derived.RangeFuncLeaves
import Derived.RangeFuncBox
import Derived.Shelf.Abstract
import Derived.Shelf.RegionOpen
import Derived.WalkKit
import Derived.OwnWalkIn
import Derived.TacticsInMore
import Derived.LoopNIn
import Derived.LoopIn
import Derived.WalkMore
import Derived.Test.YtbfajaeghiodnaaWp1
import Derived.Test.YtbfajaeghiodnaaSq
namespace Go.Proofs.Ytbfajaeghiodnaa.Di
open Go Go.RowKit Go.Shelf Go.Proofs Go.Proofs.Ytbfajaeghiodnaa Go.Proofs.Ytbfajaeghiodnaa.PR Go.Proofs.Ytbfajaeghiodnaa.PBase Go.Proofs.Ytbfajaeghiodnaa.Sq Go.Proofs.YtbfajaeghiodnaaW.PrintWords Go.Proofs.YtbfajaeghiodnaaW.PrintLast Go.Proofs.YtbfajaeghiodnaaW.PrintMore
attribute [local go_sem] Oper.semAt_some
set_option linter.unusedVariables false
set_option linter.unusedSimpArgs false
theorem drawn_by (W : World) (q : Nat) : W.grownBy (W.drewN q) none := ⟨rfl, rfl, rfl, Nat.le_refl _, fun _ _ _ => rfl⟩
theorem split_at (left p : Int) (h : I64 left) : ∃ K, whole_Split.f K left p = some ((splitF left p).1, (splitF left p).2) := by
  obtain ⟨K, hK⟩ := Split_ev left p h
  exact ⟨K, hK K (Nat.le_refl _)⟩
set_option maxRecDepth 100000 in
set_option maxHeartbeats 4000000 in
theorem parts1 (n : Nat) (hn : 2 ≤ n) (l Bs n₀ B : Nat) (x : Int) (hx : -1099511627776 ≤ x ∧ x ≤ 1099511627776) (J Jx : List S39 → World → Prop) (hJ : AbidesFrom B J)
    (hY : ∀ pre y W, J pre W → pre.length < (plN x).length → YieldAt Fence.wide (n - 1) Try.prog l #[.int .i64 y.f0, .int .i64 y.f1] W fun e W' =>
      (e = .returned (.bool true) ∧ J (pre ++ [y]) W' ∧ Below n₀ W W') ∨ (e = .returned (.bool false) ∧ Jx (pre ++ [y]) W'))
    (W : World) (hBs : W.heap[Bs]? = some (.cells #[.int .i64 x] 2 (0, 0))) (h0 : J [] W) :
    CallsIn Fence.wide n Try.prog 29 #[.func (.yield l) #[] #[], .pointer (some ⟨Bs, 0, none⟩)] W fun e W' => (∃ v, e = .returned v) ∧
      ((∃ ys, ys = plN x ∧ J ys W') ∨ (∃ pre, pre <+: plN x ∧ Jx pre W')) := by
  have c : W.cell? ⟨Bs, 0, none⟩ = some (.int .i64 x) := hc1 hBs
  have HB := Aside0.mk hBs
  clear hBs
  refine callsIn_of_wp Try.func29 rfl trivial ?_ rfl
  simp only [Try.ntmps29, List.size_toArray, List.length_cons, List.length_nil, Nat.reduceAdd, Nat.reduceSub, Array.replicate_succ, Array.replicate_zero, List.push_toArray, List.append_toArray, List.nil_append, List.cons_append]
  refine (wpIn_wide (n := n)).2 ?_
  by_cases hx0 : x = 0
  · subst hx0
    go_wp2
    go_step3
    go_wp2
    rw [Exit.noGoto_ret]
    refine bodyPost_ret (results_none rfl _ _ _) rfl ?_
    exact ⟨⟨_, rfl⟩, .inl ⟨_, rfl, h0⟩⟩
  · have hft : whole_Fits.f x = some true := by unfold whole_Fits.f; exact congrArg some (decide_eq_true (by omega))
    have hsz : whole_size.f x = some (x.natAbs : Int) := by
      unfold whole_size.f
      by_cases hn : x < 0
      · rw [if_pos hn, w64 (x := -x) (by omega) (by omega), u64in (by omega) (by omega)]; congr 1; omega
      · rw [if_neg hn, u64in (by omega) (by omega)]; congr 1; omega
    have HF := Aside0.mk hft
    have HS := Aside0.mk hsz
    clear hft hsz
    go_wp2
    go_step3
    go_wp2_with (first
      | (go_at_call 22; refine (whole_Fits.calls x true _ HF.out).mono ?_; rintro e w' ⟨rfl, ⟨q1, rfl⟩⟩)
      | (go_at_call 26; refine (whole_size.calls x _ _ HS.out).mono ?_; rintro e w' ⟨rfl, ⟨q2, rfl⟩⟩))
    have HJ0 := Aside0.mk (hJ _ _ _ none h0 (drawn_by W (q1 + q2)) (fun r e => by cases e))
    clear h0 c HB HF HS
    generalize W.drewN (q1 + q2) = W1 at HJ0 ⊢
    have HF0 := Aside0.mk (show plN x = pl 1048576 (x.natAbs : Int) 2 from if_neg hx0)
    go_step3
    go_wp2
    go_loopw [3, 4] (fun vl vp wr => ∃ (left p : Int) (pre : List S39) (d : Nat), vl = .int .i64 left ∧ vp = .int .i64 p ∧ (1 ≤ left ∧ left ≤ 1099511627776) ∧ (2 ≤ p ∧ p ≤ 1048577) ∧ 1048578 - p ≤ d ∧ Aside0 (pre ++ pl d left p = plN x) ∧ Aside0 (J pre wr)) (fun _ vp _ => 1048578 - (intOf vp).toNat)
    case atStart => exact ⟨(x.natAbs : Int), 2, [], 1048576, rfl, rfl, ⟨by omega, by omega⟩, ⟨by omega, by omega⟩, by omega, ⟨HF0.out.symm⟩, HJ0⟩
    case round =>
      obtain ⟨left, p, pre, d, rfl, rfl, ⟨hl1, hl2⟩, ⟨hp1, hp2⟩, hd, HP, HJ⟩ := hrel
      obtain ⟨d, rfl⟩ : ∃ d', d = d' + 1 := ⟨d - 1, by omega⟩
      have hpp : p * p ≤ 1048577 * 1048577 := Int.mul_le_mul hp2 hp2 (by omega) (by decide)
      have hp0 : 0 ≤ p * p := Int.mul_nonneg (by omega) (by omega)
      have hw : wrap64 (p * p) = p * p := w64 (by omega) (by omega)
      clear hpp hp0
      by_cases hc : p ≤ 1048576 ∧ p * p ≤ left
      · obtain ⟨hc1, hc2⟩ := hc
        have hpl := HP.out
        unfold pl at hpl
        rw [if_pos ⟨hc1, hc2⟩] at hpl
        have hs := splitF_facts left p hp1 hl1
        obtain ⟨K, hK⟩ := split_at left p ⟨by omega, by omega⟩
        have HK := Aside0.mk hK
        clear hK
        go_upto_region 5 with (first
          | (go_at_call 15; refine (whole_Split.calls K left p _ _ _ HK.out).mono ?_; rintro e w' ⟨rfl, ⟨q3, rfl⟩⟩))
        have HJ3 := hJ _ _ _ none HJ.out (drawn_by wr q3) (fun r e => by cases e)
        clear HJ HP hw
        generalize wr.drewN q3 = W2 at HJ3 ⊢
        obtain ⟨s1, hs1⟩ : ∃ s1, (splitF left p).1 = s1 := ⟨_, rfl⟩
        obtain ⟨s2, hs2⟩ : ∃ s2, (splitF left p).2 = s2 := ⟨_, rfl⟩
        rw [hs1, hs2] at hpl hs
        rw [hs1, hs2]
        have hp' : wrap64 (p + 1) = p + 1 := w64 (by omega) (by omega)
        clear HK hs1 hs2 K
        by_cases h0 : s1 > 0
        · rw [if_pos h0] at hpl
          have hlen : pre.length < (plN x).length := by rw [← hpl, List.length_append, List.length_cons]; omega
          have HP := Aside0.mk hpl
          clear hpl
          obtain ⟨fn, tmps, assign, body, hy, hR⟩ := hY pre ⟨p, s1⟩ W2 HJ3 hlen
          dsimp only at hy
          refine (wpIn_wide (n := n)).1 ?_
          gi_wp2
          refine ⟨fun _ => by omega, ?_⟩
          refine hR.mono ?_
          rintro e W3 (⟨rfl, hJ4, hk4⟩ | ⟨rfl, hx4⟩)
          · gi_wp2
            go_wp2
            go_roundw
            case rel => exact ⟨s2, p + 1, pre ++ [⟨p, s1⟩], d, rfl, rfl, ⟨hs.1, by omega⟩, ⟨by omega, by omega⟩, by omega, ⟨by rw [List.append_assoc]; exact HP.out⟩, ⟨hJ4⟩⟩
            case measure => simp [intOf]; omega
          · gi_wp2
            go_wp2
            rw [Exit.noGoto_ret]
            refine bodyPost_ret (results_none rfl _ _ _) rfl ?_
            exact ⟨⟨_, rfl⟩, .inr ⟨_, ⟨pl d s2 (p + 1), by rw [List.append_assoc]; exact HP.out⟩, hx4⟩⟩
        · rw [if_neg h0] at hpl
          have HP := Aside0.mk hpl
          clear hpl
          go_wp2
          go_roundw
          case rel => exact ⟨s2, p + 1, pre, d, rfl, rfl, ⟨hs.1, by omega⟩, ⟨by omega, by omega⟩, by omega, ⟨by rw [hs.2.2.2.2 (by omega)]; exact HP.out⟩, ⟨HJ3⟩⟩
          case measure => simp [intOf]; omega
      · have hpl := HP.out
        unfold pl at hpl
        rw [if_neg hc] at hpl
        have HP := Aside0.mk hpl
        clear hpl
        by_cases hc1 : p ≤ 1048576
        · have hc2 : ¬ p * p ≤ left := fun h => hc ⟨hc1, h⟩
          by_cases hg : left > 1
          · rw [if_pos hg] at HP
            have hlen : pre.length < (plN x).length := by rw [← HP.out, List.length_append]; simp
            obtain ⟨fn, tmps, assign, body, hy, hR⟩ := hY pre ⟨left, 1⟩ wr HJ.out hlen
            dsimp only at hy
            go_upto_region 9 with (fail)
            refine (wpIn_wide (n := n)).1 ?_
            gi_wp2
            refine ⟨fun _ => by omega, ?_⟩
            refine hR.mono ?_
            rintro e W3 (⟨rfl, hJ4, hk4⟩ | ⟨rfl, hx4⟩)
            · gi_wp2
              rw [Exit.noGoto_normal]
              go_end0
              exact ⟨⟨_, rfl⟩, .inl ⟨_, HP.out, hJ4⟩⟩
            · gi_wp2
              rw [Exit.noGoto_normal]
              go_end0
              exact ⟨⟨_, rfl⟩, .inr ⟨_, ⟨[], by rw [List.append_nil]; exact HP.out⟩, hx4⟩⟩
          · rw [if_neg hg, List.append_nil] at HP
            go_wp2
            go_end0
            exact ⟨⟨_, rfl⟩, .inl ⟨_, HP.out, HJ.out⟩⟩
        · by_cases hg : left > 1
          · rw [if_pos hg] at HP
            have hlen : pre.length < (plN x).length := by rw [← HP.out, List.length_append]; simp
            obtain ⟨fn, tmps, assign, body, hy, hR⟩ := hY pre ⟨left, 1⟩ wr HJ.out hlen
            dsimp only at hy
            go_upto_region 9 with (fail)
            refine (wpIn_wide (n := n)).1 ?_
            gi_wp2
            refine ⟨fun _ => by omega, ?_⟩
            refine hR.mono ?_
            rintro e W3 (⟨rfl, hJ4, hk4⟩ | ⟨rfl, hx4⟩)
            · gi_wp2
              rw [Exit.noGoto_normal]
              go_end0
              exact ⟨⟨_, rfl⟩, .inl ⟨_, HP.out, hJ4⟩⟩
            · gi_wp2
              rw [Exit.noGoto_normal]
              go_end0
              exact ⟨⟨_, rfl⟩, .inr ⟨_, ⟨[], by rw [List.append_nil]; exact HP.out⟩, hx4⟩⟩
          · rw [if_neg hg, List.append_nil] at HP
            go_wp2
            go_end0
            exact ⟨⟨_, rfl⟩, .inl ⟨_, HP.out, HJ.out⟩⟩
theorem parts_stops (n : Nat) (hn : 2 ≤ n) (Bs n₀ : Nat) (x : Int) (hx : -1099511627776 ≤ x ∧ x ≤ 1099511627776) (w : World) (hBs : Bs < w.heap.size) (hc : w.heap[Bs]? = some (.cells #[.int .i64 x] 2 (0, 0))) :
    SeqStopsK Fence.wide n Try.prog 29 #[.pointer (some ⟨Bs, 0, none⟩)] (fun y : S39 => #[Value.int .i64 y.f0, Value.int .i64 y.f1]) (Below n₀) (fun ys => ys = plN x) (fun pre => pre <+: plN x) (plN x).length w := fun l J Jx W hW hJ _ hY h0 =>
  parts1 n hn l Bs n₀ W.heap.size x hx J Jx hJ hY W ((hW.block Bs hBs).trans hc) h0
theorem parts_new (x : Int) (X : World) : Calls Try.prog 17 #[.int .i64 x] X fun e W => ∃ g, e = .returned (.func (.func 29) #[] #[.pointer (some ⟨g, 0, none⟩)]) ∧ g = X.heap.size ∧ W.heap[g]? = some (.cells #[.int .i64 x] 2 (0, 0)) ∧ Below X.heap.size X W := by
  go_enter Try.func17, Try.ntmps17
  go_wp2
  go_ret
  exact ⟨_, rfl, rfl, heap_alloc_new X _, (Below.refl _ _).alloc (Nat.le_refl _) _⟩
end Go.Proofs.Ytbfajaeghiodnaa.Di
