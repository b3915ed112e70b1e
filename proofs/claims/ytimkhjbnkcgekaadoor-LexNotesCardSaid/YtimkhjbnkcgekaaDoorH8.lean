/- lex.Each: its closure, for every loop body. Conditions: those of the body; the listed variables as they were laid; a text of at most 1000 bytes. -/
import Derived.RangeFuncNested
import Derived.RangeFuncBound
import Derived.RangeFuncCalls
import Derived.RangeFuncLeaves
import Derived.RangeFuncBox
import Derived.Shelf.Abstract
import Derived.Shelf.RegionOpen
import Derived.WalkKit
import Derived.OwnWalkIn
import Derived.TacticsInMore
import Derived.LoopNIn
import Derived.LoopIn
import Derived.WalkMore
import Derived.BigRegion
import Derived.Test.YtimkhjbnkcgekaaDoorH7
import Derived.Test.YtimkhjbnkcgekaaDoorLx3
namespace Go.Proofs.YtimkhjbnkcgekaaDoor
open Go Go.RowKit Go.Shelf Flat Go.Proofs.YtimkhjbnkcgekaaDoor.Lx Go.Proofs.YtimkhjbnkcgekaaDoor.Sq Go.Proofs.YtimkhjbnkcgekaaDoor.PB Go.Proofs.YtimkhjbnkcgekaaDoor.PC Go.Proofs.YtimkhjbnkcgekaaDoorW.PrintWords Go.Proofs.YtimkhjbnkcgekaaDoorW.PrintLast Go.Proofs.YtimkhjbnkcgekaaDoorW.PrintMore
attribute [local go_sem] Oper.semAt_some
set_option linter.unusedVariables false
set_option linter.unusedSimpArgs false
/-- What a round of the loop keeps: the old blocks, and the two that the closure reads. -/
def Kp2 (n₀ a b : Nat) (A B : World) : Prop := Below n₀ A B ∧ B.heap[a]? = A.heap[a]? ∧ B.heap[b]? = A.heap[b]?
theorem Kp2_t {n₀ a b : Nat} {A B C : World} (h : Kp2 n₀ a b A B) (k : Kp2 n₀ a b B C) : Kp2 n₀ a b A C := ⟨h.1.trans k.1, k.2.1.trans h.2.1, k.2.2.trans h.2.2⟩
theorem below_grown {A B : World} (h : Below A.heap.size A B) : A.grownBy B none := ⟨h.os, h.tape, h.output, h.size, fun k hk _ => h.block k hk⟩
def tokC (y : S31) : Array Value := #[.int .i64 y.f0, .int .i64 y.f1, .string y.f2, .int .i64 y.f3]
def tkC : Option Tk → Array Value
  | none => #[.int .i64 0, .int .i64 0, .string ⟨#[]⟩, .int .i64 0]
  | some t => #[.int .i64 t.k, .int .i64 0, .string (strOfNums t.t), .int .i64 t.v]
theorem tkV_eq (o : Option Tk) : tkV o = .agg (tkC o) := by cases o <;> rfl
set_option maxRecDepth 100000 in
set_option maxHeartbeats 4000000 in
theorem each1 (n : Nat) (hn : 2 ≤ n) (l Bs Bn B : Nat) (w0 : World) (hG : Glob [0, 2] w0) (m : Int) (s : ByteArray) (x : Sty) (hx : style_Of.f m = some x) (hs : s.size ≤ 1000) (J Jx : List S31 → World → Prop) (hJ : AbidesFrom B J)
    (hY : ∀ pre y W, J pre W → pre.length < (all x (bytesOf s)).length → YieldAt Fence.wide (n - 1) Tryd.prog l #[.agg (tokC y)] W fun e W' =>
      (e = .returned (.bool true) ∧ J (pre ++ [y]) W' ∧ Kp2 w0.heap.size Bs Bn W W') ∨ (e = .returned (.bool false) ∧ Jx (pre ++ [y]) W'))
    (W : World) (hB : Below w0.heap.size w0 W) (hBs : W.heap[Bs]? = some (.cells #[.string s] 9 (0, 0))) (hBn : W.heap[Bn]? = some (.cells #[.int .i64 m] 3 (0, 0))) (h0 : J [] W) :
    CallsIn Fence.wide n Tryd.prog 23 #[.func (.yield l) #[] #[], .pointer (some ⟨Bs, 0, none⟩), .pointer (some ⟨Bn, 0, none⟩)] W fun e W' => (∃ v, e = .returned v) ∧
      ((∃ ys, ys = all x (bytesOf s) ∧ J ys W') ∨ (∃ pre, pre <+: all x (bytesOf s) ∧ Jx pre W')) := by
  have hu31 := Tryd.underlying31
  have HG := Aside0.mk hG
  have HX := Aside0.mk hx
  have HY := Aside0.mk hY
  have HJJ := Aside0.mk hJ
  have HI0 := Aside0.mk (And.intro hB (And.intro hBs (And.intro hBn h0)))
  clear hG hx hY hJ hB hBs hBn h0
  refine callsIn_of_wp Tryd.func23 rfl trivial ?_ rfl
  simp only [Tryd.ntmps23, List.size_toArray, List.length_cons, List.length_nil, Nat.reduceAdd, Nat.reduceSub, Array.replicate_succ, Array.replicate_zero, List.push_toArray, List.append_toArray, List.nil_append, List.cons_append]
  refine (wpIn_wide (n := n)).2 ?_
  go_wp2_with (fail)
  have hlen := bytesOf_length s
  go_loopw [4] (fun v4 wr => ∃ (k d : Nat) (pre : List S31), v4 = .int .i64 (k : Int) ∧ Aside0 (k ≤ s.size ∧ s.size - k ≤ d) ∧ Aside0 (all x (bytesOf s) = pre ++ (toks x d k ((bytesOf s).drop k)).1) ∧ Aside0 (Below w0.heap.size w0 wr ∧ wr.heap[Bs]? = some (.cells #[.string s] 9 (0, 0)) ∧ wr.heap[Bn]? = some (.cells #[.int .i64 m] 3 (0, 0)) ∧ J pre wr)) (fun v4 _ => s.size - (intOf v4).toNat)
  case atStart => exact ⟨0, s.size, [], rfl, ⟨by omega, by omega⟩, ⟨by rw [List.drop_zero, List.nil_append]; unfold all; rw [hlen]⟩, HI0⟩
  case round =>
    clear HI0
    obtain ⟨k, d, pre, rfl, HK, HL, HI⟩ := hrel
    have cs_ := hc1 HI.out.2.1
    have cn_ := hc1 HI.out.2.2.1
    obtain ⟨hk1, hk2⟩ := HK.out
    by_cases hlt : k < s.size
    · have hd : decide ((k : Int) < (s.size : Int)) = true := by simp; omega
      obtain ⟨j, hj⟩ : ∃ j : Int, (k : Int) = j := ⟨_, rfl⟩
      have hjn : j.toNat = k := by omega
      have hj0 := eq_true (show 0 ≤ j by omega)
      have hj1 := eq_true (show j ≤ (s.size : Int) by omega)
      rw [hj] at hd ⊢
      obtain ⟨u, hu⟩ : ∃ u, u = s.extract j.toNat s.size := ⟨_, rfl⟩
      have hub : bytesOf u = (bytesOf s).drop k := by rw [hu, bytesOf_extract, hjn, List.take_of_length_le (by omega)]
      have hus : 0 < u.size ∧ u.size ≤ 1000 := by rw [hu, ByteArray.size_extract]; omega
      have HU := Aside0.mk hub
      have HUS := Aside0.mk hus
      have HJn := Aside0.mk hjn
      have HJK := Aside0.mk hj
      have HN := Aside0.mk (fun (w : World) (h : Glob [0, 2] w) => next_calls m u x HX.out hus.1 hus.2 w h)
      rw [hub] at HN
      obtain ⟨o, ho⟩ : ∃ o, nextL x ((bytesOf s).drop k) = o := ⟨_, rfl⟩
      simp only [ho, tkV_eq] at HN
      have HO := Aside0.mk ho
      obtain ⟨a0, a2, a3, ha⟩ : ∃ a0 a2 a3, tkC o = #[.int .i64 a0, .int .i64 0, .string a2, .int .i64 a3] := by cases o <;> exact ⟨_, _, _, rfl⟩
      obtain ⟨q, hq⟩ : ∃ q, tkN o = q := ⟨_, rfl⟩
      rw [ha, hq] at HN
      have HA := Aside0.mk ha
      have HQ := Aside0.mk hq
      clear hub hus hjn hj hlt hk1 hk2 ho ha hq
      have HW := Aside0.mk (Below.refl wr.heap.size wr)
      go_wp2_with (fail)
      go_cut [5, 6] (fun v5 v6 wc => ∃ gt, v5 = .pointer (some ⟨gt, 0, none⟩) ∧ v6 = .int .i64 q ∧ Aside0 (wr.heap.size ≤ gt) ∧ Aside0 (wc.heap[gt]? = some (.cells #[.int .i64 a0, .int .i64 0, .string a2, .int .i64 a3] 31 (0, 0))) ∧ Aside0 (Below wr.heap.size wr wc))
      case first =>
        rw [hu] at HN
        have GE := Aside0.mk (Nat.le_refl wr.heap.size)
        have ne1_ : Bs ≠ wr.heap.size := Nat.ne_of_lt (blk_lt HI.out.2.1)
        have ne2_ : Bn ≠ wr.heap.size := Nat.ne_of_lt (blk_lt HI.out.2.2.1)
        have ne3_ : wr.heap.size ≠ Bs := ne1_.symm
        have ne4_ : wr.heap.size ≠ Bn := ne2_.symm
        have cs2_ := hc1 (blk_alloc HI.out.2.1 (.cells #[.int .i64 0, .int .i64 0, .string ⟨#[]⟩, .int .i64 0] 31))
        have cn2_ := hc1 (blk_alloc HI.out.2.2.1 (.cells #[.int .i64 0, .int .i64 0, .string ⟨#[]⟩, .int .i64 0] 31))
        go_region_with (first
          | (go_at_call 24; (with_reducible refine (HN.out _ (Glob.use (m := [0, 2]) HG.out (by decide) (below_step HI.out.1 (bl HW.out)))).mono ?_); rintro e w_ ⟨rfl, hb⟩; replace HW := sb HW hb; have BT := Aside0.mk (blk_below (g := wr.heap.size) (o := .cells #[.int .i64 0, .int .i64 0, .string ⟨#[]⟩, .int .i64 0] 31 (0, 0)) (by first | exact heap_alloc_new _ _ | exact blk_drew (heap_alloc_new _ _) | exact blk_drew (blk_drew (heap_alloc_new _ _))) hb); obtain ⟨t0_, t1_, t2_, t3_⟩ := hc4 BT.out; obtain ⟨f0_, f1_, f2_, f3_⟩ := hf4 BT.out; clear hb)
          | (go_at_call 24; (with_reducible refine (HN.out _ (Glob.use (m := [0, 2]) HG.out (by decide) (below_step HI.out.1 (bl HW.out)))).mono ?_); rintro e w_ ⟨rfl, hb⟩; replace HW := sb HW hb; clear hb))
        all_goals (
          go_wp2_with (fail)
          go_meet
          case rel =>
            refine ⟨_, rfl, rfl, ?_⟩
            first
              | ((with_reducible refine ⟨GE, ?_⟩); exact ⟨⟨p4_3 (p4_2 (p4_1 (p4_0 BT.out)))⟩, ⟨bl HW.out⟩⟩)
              | ((with_reducible refine ⟨⟨below_size HW.out⟩, ?_⟩); exact ⟨⟨heap_alloc_new w_ _⟩, ⟨bl HW.out⟩⟩))
      case rest =>
        obtain ⟨gt, rfl, rfl, GT, BT, HC⟩ := hcut
        clear HN HW cs_ cn_ hj0 hj1 hd hu HU HUS
        have hjk := HJK.out
        subst hjk
        clear HJK
        obtain ⟨t0_, t1_, t2_, t3_⟩ := hc4 BT.out
        obtain ⟨f0_, f1_, f2_, f3_⟩ := hf4 BT.out
        cases o with
        | none =>
          have hq := HQ.out
          change (0 : Int) = q at hq
          subst hq
          go_wp2_with (fail)
          refine bodyPost_ret (results_none rfl _ _ _) rfl ?_
          refine ⟨⟨_, rfl⟩, .inl ⟨pre, ?_, ?_⟩⟩
          · rw [HL.out, toks_none HO.out, List.append_nil]
          · exact HJJ.out _ _ _ none HI.out.2.2.2 (below_grown (bl HC.out)) (fun r e => by cases e)
        | some tk =>
          have hq := HQ.out
          change (tk.n : Int) = q at hq
          subst hq
          obtain ⟨hp1, hp2⟩ := next_pos HO.out
          rw [List.length_drop, hlen] at hp2
          obtain ⟨hk1, hk2⟩ := HK.out
          have ha := HA.out
          change #[Value.int .i64 tk.k, .int .i64 0, .string (strOfNums tk.t), .int .i64 tk.v] = _ at ha
          simp only [Array.mk.injEq, List.cons.injEq, Value.int.injEq, Value.string.injEq, true_and, and_true] at ha
          obtain ⟨rfl, rfl, rfl⟩ := ha
          obtain ⟨d, rfl⟩ : ∃ d', d = d' + 1 := ⟨d - 1, by omega⟩
          have hl := HL.out
          rw [toks_some HO.out, List.drop_drop] at hl
          have HL := Aside0.mk hl
          have hq0 : ((tk.n : Int) == 0) = false := beq_eq_false_iff_ne.2 (by omega)
          have hw : wrap64 ((k : Int) + (tk.n : Int)) = ((k + tk.n : Nat) : Int) := by rw [w64 (by omega) (by omega)]; omega
          have hlt : pre.length < (all x (bytesOf s)).length := by rw [hl, List.length_append, List.length_cons]; omega
          have HLT := Aside0.mk hlt
          obtain ⟨a, hea⟩ : ∃ a : Int, a = ((k + tk.n : Nat) : Int) := ⟨_, rfl⟩
          rw [← hea] at hw
          have HW := Aside0.mk hw
          have HE := Aside0.mk hea
          clear hw hea
          have HPP := Aside0.mk (And.intro hp1 hp2)
          clear hl hlt hp1 hp2 hk1 hk2
          go_upto_region 4 with (fail)
          have hBT := p4_1 (u := .int .i64 (k : Int)) BT.out
          have hHC : Below wr.heap.size wr (wc.setCell ⟨gt, 1, none⟩ (.int .i64 (k : Int))) := bl HC.out
          clear t0_ t1_ t2_ t3_ f0_ f1_ f2_ f3_ BT HC
          generalize wc.setCell ⟨gt, 1, none⟩ (.int .i64 (k : Int)) = W3 at hBT hHC ⊢
          obtain ⟨t0_, t1_, t2_, t3_⟩ := hc4 hBT
          have HJ3 := HJJ.out _ _ _ none HI.out.2.2.2 (below_grown hHC) (fun r e => by cases e)
          obtain ⟨fn, tmps, assign, body, hy, hR⟩ := HY.out pre (mkT k tk) W3 HJ3 HLT.out
          dsimp only [tokC, mkT] at hy hR
          refine (wpIn_wide (n := n)).1 ?_
          gi_wp2
          refine ⟨fun _ => by omega, ?_⟩
          refine hR.mono ?_
          rintro e W4 (⟨rfl, hJ4, hk4⟩ | ⟨rfl, hx4⟩)
          · gi_wp2
            have hw := HW.out
            have hw2 : IntKind.i64.wrap ((k : Int) + (tk.n : Int)) = a := (i64_w _).trans hw
            go_wp2_with (fail)
            clear hw hw2
            go_roundw
            case rel => exact ⟨k + tk.n, d, pre ++ [mkT k tk], congrArg _ HE.out, ⟨by have := HPP.out; have := HK.out; omega, by have := HPP.out; have := HK.out; omega⟩, ⟨by rw [List.append_assoc]; exact HL.out⟩, ⟨(below_step HI.out.1 hHC).trans hk4.1, hk4.2.1.trans (blk_below HI.out.2.1 hHC), hk4.2.2.trans (blk_below HI.out.2.2.1 hHC), hJ4⟩⟩
            case measure => have h1_ := HPP.out; have h2_ := HK.out; have h3_ := HE.out; simp [intOf]; omega
          · gi_wp2
            go_wp2_with (fail)
            refine bodyPost_ret (results_none rfl _ _ _) rfl ?_
            exact ⟨⟨_, rfl⟩, .inr ⟨_, ⟨(toks x d (k + tk.n) ((bytesOf s).drop (k + tk.n))).1, by rw [List.append_assoc]; exact HL.out.symm⟩, hx4⟩⟩
    · have hd : decide ((k : Int) < (s.size : Int)) = false := by simp; omega
      have hl := HL.out
      rw [List.drop_eq_nil_of_le (by omega), toks_none rfl, List.append_nil] at hl
      have HL := Aside0.mk hl
      clear hl
      go_wp2_with (fail)
      refine bodyPost_end (results_none rfl _ _ _) rfl ?_
      exact ⟨⟨_, rfl⟩, .inl ⟨_, HL.out.symm, HI.out.2.2.2⟩⟩
theorem each_stops (n : Nat) (hn : 2 ≤ n) (Bs Bn : Nat) (w0 : World) (hG : Glob [0, 2] w0) (m : Int) (s : ByteArray) (x : Sty) (hx : style_Of.f m = some x) (hs : s.size ≤ 1000) (w : World) (hB : Below w0.heap.size w0 w) (hBs : w.heap[Bs]? = some (.cells #[.string s] 9 (0, 0))) (hBn : w.heap[Bn]? = some (.cells #[.int .i64 m] 3 (0, 0))) :
    SeqStopsK Fence.wide n Tryd.prog 23 #[.pointer (some ⟨Bs, 0, none⟩), .pointer (some ⟨Bn, 0, none⟩)] (fun y : S31 => #[.agg (tokC y)]) (Kp2 w0.heap.size Bs Bn) (fun ys => ys = all x (bytesOf s)) (fun pre => pre <+: all x (bytesOf s)) (all x (bytesOf s)).length w := fun l J Jx W hW hJ _ hY h0 =>
  each1 n hn l Bs Bn W.heap.size w0 hG m s x hx hs J Jx hJ hY W (below_step hB hW) (blk_below hBs hW) (blk_below hBn hW) h0
theorem each_new (m : Int) (s : ByteArray) (X : World) : Calls Tryd.prog 15 #[.int .i64 m, .string s] X fun e W => ∃ gn gs, e = .returned (.func (.func 23) #[] #[.pointer (some ⟨gs, 0, none⟩), .pointer (some ⟨gn, 0, none⟩)]) ∧ X.heap.size ≤ gn ∧ X.heap.size ≤ gs ∧ gn ≠ gs ∧ W.heap[gn]? = some (.cells #[.int .i64 m] 3 (0, 0)) ∧ W.heap[gs]? = some (.cells #[.string s] 9 (0, 0)) ∧ Below X.heap.size X W := by
  go_enter Tryd.func15, Tryd.ntmps15
  go_wp2
  go_ret
  exact ⟨_, _, rfl, Nat.le_refl _, Nat.le_succ _, by omega, blk_alloc (heap_alloc_new X _) _, by rw [← World.size_alloc]; exact heap_alloc_new _ _, below_alloc (below_alloc (Below.refl _ _) _) _⟩
end Go.Proofs.YtimkhjbnkcgekaaDoor
