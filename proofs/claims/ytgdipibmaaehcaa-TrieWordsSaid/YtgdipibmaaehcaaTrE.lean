/- A trie that is nil: of it nothing comes. Conditions: those in each theorem. -/
import Derived.Test.YtgdipibmaaehcaaTrA
import Derived.RangeFuncNested
import Derived.RangeFuncBound
import Derived.RangeFuncCalls
import Derived.RangeFuncLeaves
import Derived.RangeFuncBox
import Derived.Shelf.Abstract
import Derived.WalkKit
import Derived.OwnWalkIn
import Derived.TacticsInMore
import Derived.LoopNIn
import Derived.LoopIn
import Derived.WalkMore
namespace Go.Proofs.Ytgdipibmaaehcaa.Tr
open Go Go.RowKit Go.Shelf Go.Proofs.Ytgdipibmaaehcaa Go.Proofs.Ytgdipibmaaehcaa.Sq Go.Proofs.YtgdipibmaaehcaaW.PrintWords Go.Proofs.YtgdipibmaaehcaaW.PrintLast Go.Proofs.YtgdipibmaaehcaaW.PrintMore
attribute [local go_sem] Oper.semAt_some
set_option linter.unusedVariables false
set_option linter.unusedSimpArgs false
theorem is_nil (W : World) (n : Int) : Calls Try.prog 25 #[.pointer none, .int .i64 n] W fun e w' => e = .returned (.bool false) ∧ Drawn0 W w' := by
  go_enter Try.func25, Try.ntmps25
  go_wp2
  exact bodyPost_ret (v := .bool false) (by simp [results, Try.f25, go_sem]) rfl ⟨rfl, Drawn0.refl _⟩
theorem child_nil (W : World) (n c : Int) : Calls Try.prog 19 #[.pointer none, .int .i64 n, .int .u8 c] W fun e w' => e = .returned (.tuple #[.int .i64 0, .bool false]) ∧ Drawn0 W w' := by
  go_enter Try.func19, Try.ntmps19
  go_wp2_with (first | (go_at_call 25; (with_reducible refine (is_nil _ n).mono ?_); rintro e w' ⟨rfl, ⟨q, rfl⟩⟩))
  exact bodyPost_ret (v := .tuple #[.int .i64 0, .bool false]) (by simp [results, Try.f19, go_sem]) rfl ⟨rfl, ⟨q, rfl⟩⟩
theorem word_nil (W : World) (n : Int) : Calls Try.prog 22 #[.pointer none, .int .i64 n] W fun e w' => e = .returned (.tuple #[.int .i64 0, .bool false]) ∧ Drawn0 W w' := by
  go_enter Try.func22, Try.ntmps22
  go_wp2_with (first | (go_at_call 25; (with_reducible refine (is_nil _ n).mono ?_); rintro e w' ⟨rfl, ⟨q, rfl⟩⟩))
  exact bodyPost_ret (v := .tuple #[.int .i64 0, .bool false]) (by simp [results, Try.f22, go_sem]) rfl ⟨rfl, ⟨q, rfl⟩⟩
theorem len_nil (W : World) : Calls Try.prog 12 #[.pointer none] W fun e w' => e = .returned (.int .i64 0) ∧ Drawn0 W w' := by
  go_enter Try.func12, Try.ntmps12
  go_wp2
  exact bodyPost_ret (v := .int .i64 0) (by simp [results, Try.f12, go_sem]) rfl ⟨rfl, Drawn0.refl _⟩
set_option maxHeartbeats 2000000 in
theorem find_nil (W : World) (s : ByteArray) (hs : s.size ≤ 140737488351232) : Calls Try.prog 14 #[.pointer none, .string s] W fun e w' => e = .returned (.tuple #[.int .i64 0, .bool false]) ∧ Below W.heap.size W w' := by
  have kb := fun W => print_bytes (P := Try.prog) 9 49 5 Try.underlying9 Try.underlying49 Try.underlying5 s W
  go_enter Try.func14, Try.ntmps14
  go_wp2_with fail
  clear kb
  have hY := bytes_reads W 5 s (by omega)
  have HBx := Aside0.mk (bytes_below (Below.refl W.heap.size W) (Nat.le_refl _) 5 s)
  generalize Lib.bytesWorld W 5 s = wx at *
  have HY := Aside0.mk hY
  clear hY
  go_loopw [6, 14] (fun v6 v14 wr => v6 = .int .i64 0 ∧ v14 = .int .i64 0 ∧ Aside0 (wr = wx)) (fun _ _ _ => 0)
  case atStart => exact ⟨rfl, rfl, ⟨rfl⟩⟩
  case round =>
    obtain ⟨rfl, rfl, HI⟩ := hrel
    have hwr := HI.out
    subst hwr
    by_cases h0 : 0 < s.size
    · have hd : decide ((0 : Int) < (s.size : Int)) = true := by simp; omega
      have hq1 := eq_true h0
      obtain ⟨_, ea, hx⟩ := HY.out.at_ 0 (by omega) (by omega)
      cases ea
      rw [add_plain] at hx
      obtain ⟨c, hc⟩ : ∃ c, c = rd (bytesOf s) 0 := ⟨_, rfl⟩
      rw [← hc] at hx
      have hx2 : wr.cell? ⟨W.heap.size, 0, none⟩ = some (.int .u8 c) := hx
      clear hx hc h0
      go_wp2_with (first | (go_at_call 19; (with_reducible refine (child_nil _ 0 c).mono ?_); rintro e w' ⟨rfl, ⟨q, rfl⟩⟩))
      exact bodyPost_ret (v := .tuple #[.int .i64 0, .bool false]) (by simp [results, Try.f14, go_sem]) rfl ⟨rfl, bl HBx.out⟩
    · have hd : decide ((0 : Int) < (s.size : Int)) = false := decide_eq_false (by omega)
      have hq1 := eq_false h0
      go_wp2_with (first | (go_at_call 22; (with_reducible refine (word_nil _ 0).mono ?_); rintro e w' ⟨rfl, ⟨q, rfl⟩⟩))
      exact bodyPost_ret (v := .tuple #[.int .i64 0, .bool false]) (by simp [results, Try.f14, go_sem]) rfl ⟨rfl, bl HBx.out⟩
/-- The iterator over a node's children, where there is no trie: nothing is told. -/
theorem children_nil_new (n : Int) (X : World) : Calls Try.prog 18 #[.pointer none, .int .i64 n] X fun e W => ∃ gt gn, e = .returned (.func (.func 24) #[] #[.pointer (some ⟨gt, 0, none⟩), .pointer (some ⟨gn, 0, none⟩)]) ∧ X.heap.size ≤ gt ∧ X.heap.size ≤ gn ∧ W.heap[gt]? = some (.cells #[.pointer none] 25 (0, 0)) ∧ W.heap[gn]? = some (.cells #[.int .i64 n] 3 (0, 0)) ∧ Below X.heap.size X W := by
  go_enter Try.func18, Try.ntmps18
  go_wp2
  go_ret
  exact ⟨_, _, rfl, Nat.le_refl _, Nat.le_succ _, blk_alloc (heap_alloc_new X _) _, by rw [← World.size_alloc]; exact heap_alloc_new _ _, below_alloc (below_alloc (Below.refl _ _) _) _⟩
theorem words_nil_new (X : World) : Calls Try.prog 21 #[.pointer none] X fun e W => ∃ gt, e = .returned (.func (.func 28) #[] #[.pointer (some ⟨gt, 0, none⟩)]) ∧ X.heap.size ≤ gt ∧ W.heap[gt]? = some (.cells #[.pointer none] 25 (0, 0)) ∧ Below X.heap.size X W := by
  go_enter Try.func21, Try.ntmps21
  go_wp2
  go_ret
  exact ⟨_, rfl, Nat.le_refl _, heap_alloc_new X _, below_alloc (Below.refl _ _) _⟩
theorem below_grown' {A B : World} (h : Below A.heap.size A B) : A.grownBy B none := ⟨h.os, h.tape, h.output, h.size, fun k hk _ => h.block k hk⟩
theorem children_nil_stops {α : Type} (encs : α → Array Value) (n : Nat) (gt gn : Nat) (x : Int) (w : World) (h1 : w.heap[gt]? = some (.cells #[.pointer none] 25 (0, 0))) (h2 : w.heap[gn]? = some (.cells #[.int .i64 x] 3 (0, 0))) :
    SeqStopsK Fence.wide n Try.prog 24 #[.pointer (some ⟨gt, 0, none⟩), .pointer (some ⟨gn, 0, none⟩)] encs (fun _ _ => True) (fun ys => ys = []) (fun _ => False) 0 w := by
  intro l J Jx W hW hJ _ _ h0
  have c1 := hc1 (blk_below h1 hW)
  have c2 := hc1 (blk_below h2 hW)
  have HJ := Aside0.mk (And.intro hJ h0)
  clear h1 h2 hW hJ h0
  refine callsIn_of_wp Try.func24 rfl trivial ?_ rfl
  simp only [Try.ntmps24, List.size_toArray, List.length_cons, List.length_nil, Nat.reduceAdd, Nat.reduceSub, Array.replicate_succ, Array.replicate_zero, List.push_toArray, List.append_toArray, List.nil_append, List.cons_append]
  refine (wpIn_wide (n := n)).2 ?_
  go_wp2_with (first | (go_at_call 25; (with_reducible refine (is_nil _ x).mono ?_); rintro e w' ⟨rfl, ⟨q, rfl⟩⟩))
  refine bodyPost_ret (results_none rfl _ _ _) rfl ⟨⟨_, rfl⟩, .inl ⟨[], rfl, ?_⟩⟩
  exact HJ.out.1 _ _ _ none HJ.out.2 (below_grown' (pw_below_drewN (Below.refl _ _) q)) (fun r e => by cases e)
/-- The walk of no trie: nothing is told. -/
theorem walk_nil (n : Nat) (hn : 3 ≤ n) (l : Nat) (W : World) : CallsIn Fence.wide n Try.prog 29 #[.pointer none, .int .i64 0, .string ⟨#[]⟩, .func (.yield l) #[] #[]] W fun e W' => e = .returned (.bool true) ∧ Below W.heap.size W W' := by
  have HB := Aside0.mk (Below.refl W.heap.size W)
  refine callsIn_of_wp_marks Try.func29 rfl trivial ?_ rfl
  simp only [Try.ntmps29, List.size_toArray, List.length_cons, List.length_nil, Nat.reduceAdd, Nat.reduceSub, Array.replicate_succ, Array.replicate_zero, List.push_toArray, List.append_toArray, List.nil_append, List.cons_append]
  refine (wpIn_wide (n := n)).2 ?_
  go_wp2_with fail
  go_step3
  go_wp2_with (first | (go_at_call 22; (with_reducible refine (word_nil _ 0).mono ?_); rintro e w' ⟨rfl, ⟨q, rfl⟩⟩))
  have hX : (((((W.alloc (.cells #[.pointer none] 25)).alloc (.cells #[.string ⟨#[]⟩] 9)).alloc (.cells #[.func (.yield l) #[] #[]] 59)).drewN q).alloc (.cells #[.bool true] 4)).heap[W.heap.size + 1 + 1 + 1]? = some (.cells #[.bool true] 4 (0, 0)) := by
    have h_ := heap_alloc_new (((W.alloc (.cells #[.pointer none] 25)).alloc (.cells #[.string ⟨#[]⟩] 9)).alloc (.cells #[.func (.yield l) #[] #[]] 59) |>.drewN q) (.cells #[.bool true] 4)
    have e_ : ((((W.alloc (.cells #[.pointer none] 25)).alloc (.cells #[.string ⟨#[]⟩] 9)).alloc (.cells #[.func (.yield l) #[] #[]] 59)).drewN q).heap.size = W.heap.size + 1 + 1 + 1 := by
      show (((W.alloc (.cells #[.pointer none] 25)).alloc (.cells #[.string ⟨#[]⟩] 9)).alloc (.cells #[.func (.yield l) #[] #[]] 59)).heap.size = _
      rw [World.size_alloc, World.size_alloc, World.size_alloc]
    rw [e_] at h_
    exact h_
  have hT : (((((W.alloc (.cells #[.pointer none] 25)).alloc (.cells #[.string ⟨#[]⟩] 9)).alloc (.cells #[.func (.yield l) #[] #[]] 59)).drewN q).alloc (.cells #[.bool true] 4)).heap[W.heap.size]? = some (.cells #[.pointer none] 25 (0, 0)) :=
    blk_alloc (blk_drewN (blk_alloc (blk_alloc (heap_alloc_new W _) _) _) q) _
  have hXB : Below W.heap.size W (((((W.alloc (.cells #[.pointer none] 25)).alloc (.cells #[.string ⟨#[]⟩] 9)).alloc (.cells #[.func (.yield l) #[] #[]] 59)).drewN q).alloc (.cells #[.bool true] 4)) := bl HB.out
  clear HB
  generalize (((((W.alloc (.cells #[.pointer none] 25)).alloc (.cells #[.string ⟨#[]⟩] 9)).alloc (.cells #[.func (.yield l) #[] #[]] 59)).drewN q).alloc (.cells #[.bool true] 4)) = X at hX hT hXB ⊢
  have cT := hc1 hT
  have HX := Aside0.mk (And.intro hX hXB)
  clear hX hT hXB
  go_step3
  go_wp2_with (first | (go_at_call 18; (with_reducible refine (children_nil_new 0 _).mono ?_); rintro e w2 ⟨gt, gn, rfl, hgt, hgn, hbt, hbn, hb⟩))
  clear cT
  have hX2 := blk_below HX.out.1 hb
  have hXB2 := below_step HX.out.2 hb
  have hz := hXB2.size
  refine (wpIn_wide (n := n)).1 ?_
  refine wpIn_rangeFunc_ownG rfl (by omega) (gf := 24) (lb := #[.pointer (some ⟨gt, 0, none⟩), .pointer (some ⟨gn, 0, none⟩)]) rfl trivial (enters_of Try.func24 (by kernel_rfl) rfl)
    (children_nil_stops (fun y : Int × Int => #[.int .u8 y.1, .int .i64 y.2]) (n - 1) gt gn 0 w2 hbt hbn) (fun _ _ => trivial) (fun _ _ _ _ _ _ _ _ => trivial) (Below.refl _ _) (fun _ => rfl)
    (fun pre W' => W'.heap[W.heap.size + 1 + 1 + 1]? = some (.cells #[.bool true] 4 (0, 0)) ∧ Below W.heap.size W W')
    (fun cc pre W' => False)
    ?own (fun cc => fun _ _ _ _ hs _ _ => hs.elim)
    ⟨hX2, hXB2⟩ ?a1 ?assign ?body ?done ?stop
  case own =>
    intro pre A B row hs hg hr
    refine ⟨(hg.block _ (blk_lt hs.1) (fun e => ?_)).trans hs.1, ownFrom_below (β := Unit) (Nat.le_refl _) hz () A B row hs.2 hg hr⟩
    obtain ⟨_, o, ho, hc⟩ := hr _ e.symm
    rw [hs.1] at ho; cases ho; cases hc
  case assign =>
    intro l' y W' K hK
    gi_wp2
    exact hK
  case body => intro l' pre y W' _ hlen; omega
  case stop => intro D cc pre W' _ h; exact h.elim
  case done =>
    rintro D ys W' hD hS ⟨hI1, hI2⟩ hK
    have c1 := hc1 hI1
    have HE := Aside0.mk (And.intro hI2 hK)
    have HD := Aside0.mk (Nat.le_trans hz hD)
    clear hI1 hI2 hK hD hz hX2 hXB2 hb hgt hgn hbt hbn
    go_wp2_with fail
    rw [Exit.noGoto_ret]
    refine ⟨by simp, .inl ⟨_, _, rfl, run_takeDeferred HE.out.2, ?_⟩⟩
    refine ⟨.bool true, ?_, rfl, HE.out.1.trans (belowK_b (w := W) (Nat.le_refl _) _ D _ (.deferred none) HD.out HE.out.2 rfl rfl)⟩
    simp [results, Try.f29, go_sem]
theorem words_nil_stops {α : Type} (encs : α → Array Value) (n : Nat) (hn : 4 ≤ n) (gt : Nat) (w : World) (h1 : w.heap[gt]? = some (.cells #[.pointer none] 25 (0, 0))) :
    SeqStopsK Fence.wide n Try.prog 28 #[.pointer (some ⟨gt, 0, none⟩)] encs (fun _ _ => True) (fun ys => ys = []) (fun _ => False) 0 w := by
  intro l J Jx W hW hJ _ _ h0
  have c1 := hc1 (blk_below h1 hW)
  have HJ := Aside0.mk (And.intro hJ h0)
  clear h1 hW hJ h0
  refine callsIn_of_wp Try.func28 rfl trivial ?_ rfl
  simp only [Try.ntmps28, List.size_toArray, List.length_cons, List.length_nil, Nat.reduceAdd, Nat.reduceSub, Array.replicate_succ, Array.replicate_zero, List.push_toArray, List.append_toArray, List.nil_append, List.cons_append]
  gi_wp2
  refine ⟨trivial, fun _ => by omega, (walk_nil (n - 1) (by omega) l _).mono ?_⟩
  rintro e w' ⟨rfl, hb⟩
  gi_wp2
  refine bodyPost_end (results_none rfl _ _ _) rfl ⟨⟨_, rfl⟩, .inl ⟨[], rfl, ?_⟩⟩
  exact HJ.out.1 _ _ _ none HJ.out.2 (below_grown' hb) (fun r e => by cases e)
theorem row_kept {X Y : World} {g : Nat} {cs : Array Value} {t : TypeId} {fr : Nat × Nat} {row : Option Nat} (h : X.heap[g]? = some (.cells cs t fr)) (hg : X.grownBy Y row) (hr : ∀ r, row = some r → ∃ o : Obj, X.heap[r]? = some o ∧ o.isCells = false) : Y.heap[g]? = some (.cells cs t fr) :=
  (hg.block g (blk_lt h) (fun e1 => by
    obtain ⟨o, ho, hc⟩ := hr g e1.symm
    rw [h] at ho; cases ho; cases hc)).trans h
theorem func_nil24 (lb : Array Value) (W : World) : (binOp BinOp.eql 36 (Value.func (Fn.func 24) #[] lb) Value.nilFunc).run Try.prog W = .ok (.bool false) W := by
  have h := Try.underlying36
  first
    | rfl
    | kernel_rfl
    | (simp [binOp, Op.equal, Op.equalIn, run_underlying h]; done)
theorem func_nil28 (lb : Array Value) (W : World) : (binOp BinOp.eql 41 (Value.func (Fn.func 28) #[] lb) Value.nilFunc).run Try.prog W = .ok (.bool false) W := by
  have h := Try.underlying41
  first
    | rfl
    | kernel_rfl
    | (simp [binOp, Op.equal, Op.equalIn, run_underlying h]; done)
set_option maxHeartbeats 8000000 in
set_option maxRecDepth 100000 in
theorem trieNil_walk (n : Int) (s : ByteArray) (hs : s.size ≤ 140737488351232) (W : World) : Calls Try.prog 8 #[.int .i64 n, .string s] W fun e w' => e = .returned (.bool true) ∧ Below W.heap.size W w' := by
  have hf24 := func_nil24
  have hf28 := func_nil28
  have HS := Aside0.mk hs
  have HB := Aside0.mk (Below.refl W.heap.size W)
  clear hs
  refine (callsIn_wide (n := 9)).1 ?_
  refine callsIn_of_wp_marks Try.func8 rfl trivial ?_ rfl
  refine (wpIn_wide (n := 9)).2 ?_
  simp only [Try.ntmps8, List.size_toArray, List.length_cons, List.length_nil, Nat.reduceAdd, Nat.reduceSub, Array.replicate_succ, Array.replicate_zero, List.push_toArray, List.append_toArray, List.nil_append, List.cons_append]
  go_wp2_with (first
    | ((with_reducible refine gate_dst (N := 4) rfl ?_); refine box_event ?hg (N := 4) ?hd (cs := #[.bool false]) (t := 4) ?hr ?_; (case hd => rfl); (case hg => rfl); (case hr => first | (go_simp; done) | (go_simp; rfl)); intro gr hg_ wr_ hbox hb; have Gr := Aside0.mk (bsz (bl HB.out) hg_ : W.heap.size ≤ gr); replace HB := sb HB hb; have Br := Aside0.mk hbox; clear hbox hb hg_)
    | (go_at_call 19; (with_reducible refine (child_nil _ n 109).mono ?_); rintro e w_ ⟨rfl, ⟨q1, rfl⟩⟩)
    | (go_at_call 22; (with_reducible refine (word_nil _ n).mono ?_); rintro e w_ ⟨rfl, ⟨q2, rfl⟩⟩)
    | (go_at_call 14; (with_reducible refine (find_nil _ s HS.out).mono ?_); rintro e w3 ⟨rfl, hb⟩; replace Br := Aside0.mk (blk_below (kp Br.out) hb); replace HB := sb HB hb; clear hb)
    | (go_at_call 18; (with_reducible refine (children_nil_new n _).mono ?_); rintro e w4 ⟨gt, gn, rfl, hgt, hgn, hbt, hbn, hb⟩; replace Br := Aside0.mk (blk_below (kp Br.out) hb); replace HB := sb HB hb; have HC1 := Aside0.mk (And.intro hbt hbn); clear hgt hgn hbt hbn hb)
    | (go_at_call 21; (with_reducible refine (words_nil_new _).mono ?_); rintro e w5 ⟨gt2, rfl, hgt, hbt, hb⟩; replace Br := Aside0.mk (blk_below (kp Br.out) hb); replace HB := sb HB hb; replace HC1 := Aside0.mk (And.intro (blk_below HC1.out.1 hb) (blk_below HC1.out.2 hb)); have HC2 := Aside0.mk hbt; clear hgt hbt hb))
  have hz := below_size HB.out
  refine (wpIn_wide (n := 9)).1 ?_
  refine wpIn_rangeFunc_ownG rfl (by omega) (gf := 24) (lb := #[.pointer (some ⟨gt, 0, none⟩), .pointer (some ⟨gn, 0, none⟩)]) rfl trivial (enters_of Try.func24 (by kernel_rfl) rfl)
    (children_nil_stops (fun y : Int × Int => #[.int .u8 y.1, .int .i64 y.2]) 8 gt gn n w5 HC1.out.1 HC1.out.2) (fun _ _ => trivial) (fun _ _ _ _ _ _ _ _ => trivial) (Below.refl _ _) (fun _ => rfl)
    (fun pre W' => (W'.heap[gr]? = some (.cells #[.bool false] 4 (0, 0)) ∧ W'.heap[gt2]? = some (.cells #[.pointer none] 25 (0, 0))) ∧ Below W.heap.size W W')
    (fun cc pre W' => False)
    ?own (fun cc => fun _ _ _ _ hs _ _ => hs.elim)
    ⟨⟨Br.out, HC2.out⟩, HB.out⟩ ?a1 ?assign ?body ?done ?stop
  case own =>
    intro pre A B row hs hg hr
    refine ⟨⟨(hg.block _ (blk_lt hs.1.1) (fun e => ?_)).trans hs.1.1, (hg.block _ (blk_lt hs.1.2) (fun e => ?_)).trans hs.1.2⟩, ownFrom_below (β := Unit) (Nat.le_refl _) hz () A B row hs.2 hg hr⟩
    · obtain ⟨_, o, ho, hc⟩ := hr _ e.symm
      rw [hs.1.1] at ho; cases ho; cases hc
    · obtain ⟨_, o, ho, hc⟩ := hr _ e.symm
      rw [hs.1.2] at ho; cases ho; cases hc
  case assign =>
    intro l' y W' K hK
    gi_wp2
    exact hK
  case body => intro l' pre y W' _ hlen; omega
  case stop => intro D cc pre W' _ h; exact h.elim
  case done =>
    rintro D ys W' hD hS ⟨⟨hI1, hI3⟩, hI2⟩ hK
    have HD := Aside0.mk (And.intro (Nat.le_trans hz hD) hK)
    have Br2 := Aside0.mk hI1
    have HB2 := Aside0.mk hI2
    have HG2 := Aside0.mk hI3
    clear Br HC1 HC2 HB hz hI1 hI2 hI3 hK hD
    go_wp2_with fail
    have hz2 := below_size HB2.out
    have hltD := blk_lt HD.out.2
    refine (wpIn_wide (n := 9)).1 ?_
    refine wpIn_rangeFunc_ownG rfl (by omega) (gf := 28) (lb := #[.pointer (some ⟨gt2, 0, none⟩)]) rfl trivial (enters_of Try.func28 (by kernel_rfl) rfl)
      (words_nil_stops (fun y : ByteArray × Int => #[.string y.1, .int .i64 y.2]) 8 (by omega) gt2 W' HG2.out) (fun _ _ => trivial) (fun _ _ _ _ _ _ _ _ => trivial) (Below.refl _ _) (fun _ => rfl)
      (fun pre W2 => (W2.heap[gr]? = some (.cells #[.bool false] 4 (0, 0)) ∧ W2.heap[D]? = some (.deferred (some []))) ∧ Below W.heap.size W W2)
      (fun cc pre W2 => False)
      ?own2 (fun cc => fun _ _ _ _ hs _ _ => hs.elim)
      ⟨⟨Br2.out, HD.out.2⟩, HB2.out⟩ ?a2 ?assign2 ?body2 ?done2 ?stop2
    case own2 =>
      intro pre A B row hs hg hr
      refine ⟨⟨(hg.block _ (blk_lt hs.1.1) (fun e => ?_)).trans hs.1.1, (hg.block _ (blk_lt hs.1.2) (fun e => ?_)).trans hs.1.2⟩, ownFrom_below (β := Unit) (Nat.le_refl _) hz2 () A B row hs.2 hg hr⟩
      · obtain ⟨_, o, ho, hc⟩ := hr _ e.symm
        rw [hs.1.1] at ho; cases ho; cases hc
      · obtain ⟨h1, _⟩ := hr _ e.symm
        omega
    case assign2 =>
      intro l' y W' K hK
      gi_wp2
      exact hK
    case body2 => intro l' pre y W' _ hlen; omega
    case stop2 => intro D cc pre W' _ h; exact h.elim
    case done2 =>
      rintro D2 ys2 W2 hD2 hS2 ⟨⟨hJ1, hJ3⟩, hJ2⟩ hK2
      have HE := Aside0.mk (And.intro (Nat.le_trans hz2 hD2) (And.intro hK2 (And.intro hJ3 (show D ≠ D2 by omega))))
      have Br3 := Aside0.mk hJ1
      have HB3 := Aside0.mk hJ2
      have HB := Aside0.mk (Below.refl W2.heap.size W2)
      have cr := hc1 hJ1
      clear Br2 HB2 HG2 hJ1 hJ2 hJ3 hK2 hD2 hltD hz2
      go_wp2_with (first
        | (go_at_call 9; (with_reducible refine (awake_calls _).mono ?_); rintro e w7 ⟨rfl, hb⟩; replace Br3 := Aside0.mk (blk_below Br3.out hb); replace HB := sb HB hb; have fr := blk_frozen Br3.out 0; clear cr hb; have cr := hc1 Br3.out)
        | (go_at_call 12; (with_reducible refine (len_nil _).mono ?_); rintro e w8 ⟨rfl, ⟨q7, rfl⟩⟩))
      have hne : D ≠ gr := fun e => by
        have h1 := blk_below HE.out.2.2.1 (bl HB.out : Below W2.heap.size W2 w7)
        rw [e, Br3.out] at h1; cases h1
      have hne2 : D2 ≠ gr := fun e => by
        have h1 := blk_below HE.out.2.1 (bl HB.out : Below W2.heap.size W2 w7)
        rw [e, Br3.out] at h1; cases h1
      have hR7 : ((w7.drewN q7).setCell ⟨gr, 0, none⟩ (.bool true)).heap[gr]? = some (.cells #[.bool true] 4 (0, 0)) := p1_0 (blk_drewN Br3.out q7)
      have hK2 : ((w7.drewN q7).setCell ⟨gr, 0, none⟩ (.bool true)).heap[D2]? = some (.deferred (some [])) := (Below.heap_setCell _ _ _ _ hne2).trans (blk_drewN (blk_below HE.out.2.1 (bl HB.out : Below W2.heap.size W2 w7)) q7)
      have hKD : ((w7.drewN q7).setCell ⟨gr, 0, none⟩ (.bool true)).heap[D]? = some (.deferred (some [])) := (Below.heap_setCell _ _ _ _ hne).trans (blk_drewN (blk_below HE.out.2.2.1 (bl HB.out : Below W2.heap.size W2 w7)) q7)
      have hBB : Below W.heap.size W ((w7.drewN q7).setCell ⟨gr, 0, none⟩ (.bool true)) := (below_step HB3.out (pw_below_drewN (bl HB.out : Below W2.heap.size W2 w7) q7)).setCell (p := ⟨gr, 0, none⟩) Gr.out _
      have g1 := grownBy_putObj' ((w7.drewN q7).setCell ⟨gr, 0, none⟩ (.bool true)) D2 (.deferred none)
      have hKR3 := row_kept hR7 g1 (fun r e => by cases e; exact ⟨_, hK2, rfl⟩)
      have hKD3 := (g1.block D (blk_lt hKD) (fun e => HE.out.2.2.2 (Option.some.inj e))).trans hKD
      have hBB3 := hBB.trans (belowK_b (w := W) (Nat.le_refl _) _ D2 _ (.deferred none) HE.out.1 hK2 rfl rfl)
      have g2 := grownBy_putObj' (((w7.drewN q7).setCell ⟨gr, 0, none⟩ (.bool true)).putObj D2 (.deferred none)) D (.deferred none)
      have hKR4 := hc1 (row_kept hKR3 g2 (fun r e => by cases e; exact ⟨_, hKD3, rfl⟩))
      have hBB4 := hBB3.trans (belowK_b (w := W) (Nat.le_refl _) _ D _ (.deferred none) HD.out.1 hKD3 rfl rfl)
      refine ⟨by simp, .inl ⟨_, _, rfl, run_takeDeferred hK2, ?_⟩⟩
      refine ⟨by simp, .inl ⟨_, _, rfl, run_takeDeferred hKD3, ?_⟩⟩
      refine ⟨.bool true, ?_, rfl, hBB4⟩
      simp [results, Try.f8, go_sem, hKR4]
end Go.Proofs.Ytgdipibmaaehcaa.Tr
