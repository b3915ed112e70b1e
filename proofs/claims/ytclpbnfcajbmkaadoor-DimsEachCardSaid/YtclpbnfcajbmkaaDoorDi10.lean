/- drachmlaw03.near: seven rests. Its condition: the divisor is not 0. -/
import Derived.Test.YtclpbnfcajbmkaaDoorDi8
namespace Go.Proofs.YtclpbnfcajbmkaaDoor.Di
open Go Go.RowKit Go.Shelf Go.Proofs Go.Proofs.YtclpbnfcajbmkaaDoor Go.Proofs.YtclpbnfcajbmkaaDoor.Bu Go.Proofs.YtclpbnfcajbmkaaDoor.Sq Go.Proofs.YtclpbnfcajbmkaaDoorW.PrintWords Go.Proofs.YtclpbnfcajbmkaaDoorW.PrintLast Go.Proofs.YtclpbnfcajbmkaaDoorW.PrintMore
attribute [local go_sem] max2_int min2_int max_two min_two max_three min_three max_four min_four   -- for this text's walks alone
set_option linter.unusedVariables false
set_option linter.unusedSimpArgs false
def accN (f : Nat → Int) (m : Int) : Nat → Nat → Int
  | 0 => f
  | k + 1 => upd (accN f m k) k (Int.tmod (f k) m)
theorem accN_at (f : Nat → Int) (m : Int) : ∀ k q, k ≤ q → accN f m k q = f q
  | 0, _, _ => rfl
  | k + 1, q, h => by
    show (if q = k then _ else accN f m k q) = f q
    rw [if_neg (by omega), accN_at f m k q (by omega)]
set_option maxHeartbeats 4000000 in
set_option maxRecDepth 100000 in
theorem nearC (f : Nat → Int) (most : Int) (hm : 0 ≤ most ∧ most ≤ 1000) (w : World) : Calls Tryd.prog 10 #[.agg (A7 f), .int .i64 most] w fun e W => e = .returned (.agg (A7 (accN f (most + 1) 7))) ∧ Below w.heap.size w W := by
  have hu23 := Tryd.underlying23
  obtain ⟨hm0, hm1⟩ := hm
  have hw : wrap64 (most + 1) = most + 1 := by unfold wrap64; omega
  have hz : ¬ most + 1 = 0 := by omega
  go_enter Tryd.func10, Tryd.ntmps10
  go_wp2_with (first
    | ((with_reducible refine gate_dst (N := 2) rfl ?_); refine box_event ?hg (N := 2) ?hd (cs := A7 f) (t := 23) ?hr ?_; (case hd => rfl); (case hg => rfl); (case hr => first | (go_simp; done) | (go_simp; rfl)); intro ga hg_ wa_ hbox hb; have Ga := Aside0.mk (bsz (bl (Below.refl _ _)) hg_ : w.heap.size ≤ ga); have HB := Aside0.mk hb; have Ba := Aside0.mk hbox; clear hbox hb hg_)
    | ((with_reducible refine gate_dst (N := 4) rfl ?_); refine box_event ?hg (N := 4) ?hd (cs := A7 fun _ => 0) (t := 23) ?hr ?_; (case hd => rfl); (case hg => rfl); (case hr => first | (go_simp; done) | (go_simp; rfl)); intro gr hg_ wr_ hbox hb; have Gr := Aside0.mk (bsz (bl HB.out) hg_ : w.heap.size ≤ gr); have Nar := Aside0.mk (nlt (kp Ba.out) hg_ : ga ≠ gr); have Nra := Aside0.mk (ngt (kp Ba.out) hg_ : gr ≠ ga); replace Ba := Aside0.mk (blk_below (kp Ba.out) hb); replace HB := Aside0.mk (below_step (bl HB.out) hb); have Br := Aside0.mk hbox; clear hbox hb hg_))
  go_loopw [5] (fun v wr => ∃ k : Nat, v = .int .i64 k ∧ k ≤ 7 ∧ Aside0 (wr.heap[ga]? = some (.cells (A7 (accN f (most + 1) k)) 23 (0, 0))) ∧ Aside0 (wr.heap[gr]? = some (.cells (A7 fun _ => 0) 23 (0, 0))) ∧ Aside0 (Below w.heap.size w wr)) (fun v _ => 7 - (intOf v).toNat)
  case atStart => exact ⟨0, rfl, by omega, ⟨kp Ba.out⟩, ⟨kp Br.out⟩, ⟨bl HB.out⟩⟩
  case round =>
    clear Ba Br HB
    obtain ⟨k, rfl, hk, Ba, Br, HB⟩ := hrel
    by_cases h7 : k < 7
    · have c1 := get7n Ba.out k h7
      rw [accN_at f _ k k (Nat.le_refl _)] at c1
      have f1 := blk_frozen Ba.out k
      have n1 := Nar.out; have n2 := Nra.out
      go_wp2
      go_roundw
      case rel => exact ⟨k + 1, by simp, by omega, ⟨put7n Ba.out k _ h7⟩, ⟨kp Br.out⟩, ⟨bl HB.out⟩⟩
      case measure => simp [intOf]; omega
    · obtain rfl : k = 7 := by omega
      obtain ⟨F7, hF7⟩ : ∃ F7, accN f (most + 1) 7 = F7 := ⟨_, rfl⟩
      have HF := Aside0.mk hF7
      rw [hF7] at Ba
      clear hF7 hk h7 hw hz
      have n1 := Nar.out; have n2 := Nra.out
      obtain ⟨ca0_, ca1_, ca2_, ca3_, ca4_, ca5_, ca6_⟩ := hc7 Ba.out
      obtain ⟨cr0_, cr1_, cr2_, cr3_, cr4_, cr5_, cr6_⟩ := hc7 Br.out
      obtain ⟨fr0_, fr1_, fr2_, fr3_, fr4_, fr5_, fr6_⟩ := hf7 Br.out
      go_wp2
      refine bodyPost_ret (results_c1 rfl _ _ gr 23 (A7 F7) (0, 0) _ rfl (kp (p7_6 (kp (p7_5 (kp (p7_4 (kp (p7_3 (kp (p7_2 (kp (p7_1 (kp (p7_0 (kp Br.out))))))))))))))) Tryd.underlying23 rfl (by kernel_rfl)) rfl ?_
      exact ⟨by rw [HF.out], bl HB.out⟩
def tm (m x : Int) : Int := Int.tmod x (m + 1)
theorem accN_7 (f : Nat → Int) (m : Int) : ∀ q, q < 7 → accN f m 7 q = Int.tmod (f q) m := by
  intro q hq
  have : q = 0 ∨ q = 1 ∨ q = 2 ∨ q = 3 ∨ q = 4 ∨ q = 5 ∨ q = 6 := by omega
  rcases this with rfl | rfl | rfl | rfl | rfl | rfl | rfl <;> rfl
end Go.Proofs.YtclpbnfcajbmkaaDoor.Di
namespace Go.Proofs.YtclpbnfcajbmkaaDoor
open Go Go.RowKit Go.Proofs.YtclpbnfcajbmkaaDoor.Di
def drachmlaw03_near.f (a0_0 a0_1 a0_2 a0_3 a0_4 a0_5 a0_6 a1 : Int) : Option (Int × Int × Int × Int × Int × Int × Int) := if 0 ≤ a1 ∧ a1 ≤ 1000 then some (tm a1 a0_0, tm a1 a0_1, tm a1 a0_2, tm a1 a0_3, tm a1 a0_4, tm a1 a0_5, tm a1 a0_6) else none
theorem drachmlaw03_near.calls (a0_0 a0_1 a0_2 a0_3 a0_4 a0_5 a0_6 a1 r1 r2 r3 r4 r5 r6 r7 : Int) (w : World) (h : drachmlaw03_near.f a0_0 a0_1 a0_2 a0_3 a0_4 a0_5 a0_6 a1 = some (r1, r2, r3, r4, r5, r6, r7)) :
    Calls Tryd.prog 10 #[.agg #[.int .i64 a0_0, .int .i64 a0_1, .int .i64 a0_2, .int .i64 a0_3, .int .i64 a0_4, .int .i64 a0_5, .int .i64 a0_6], .int .i64 a1] w fun e w' => e = .returned (.agg #[.int .i64 r1, .int .i64 r2, .int .i64 r3, .int .i64 r4, .int .i64 r5, .int .i64 r6, .int .i64 r7]) ∧ Below w.heap.size w w' := by
  unfold drachmlaw03_near.f at h
  split at h
  · rename_i hm
    have h := Option.some.inj h
    simp only [Prod.mk.injEq] at h
    obtain ⟨rfl, rfl, rfl, rfl, rfl, rfl, rfl⟩ := h
    exact nearC (fn7 a0_0 a0_1 a0_2 a0_3 a0_4 a0_5 a0_6) a1 hm w
  · cases h
end Go.Proofs.YtclpbnfcajbmkaaDoor
