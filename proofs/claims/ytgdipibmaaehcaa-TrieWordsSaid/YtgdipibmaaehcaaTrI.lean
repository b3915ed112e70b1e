/- TrieChildren walked. Its conditions: the words as they stand. -/
import Derived.Test.YtgdipibmaaehcaaTrH
import Derived.Test.YtgdipibmaaehcaaTrB
namespace Go.Proofs.Ytgdipibmaaehcaa.Tr
open Go Go.RowKit Go.Shelf Go.Proofs.Ytgdipibmaaehcaa Go.Proofs.Ytgdipibmaaehcaa.Sq Go.Proofs.YtgdipibmaaehcaaW.PrintWords Go.Proofs.YtgdipibmaaehcaaW.PrintLast Go.Proofs.YtgdipibmaaehcaaW.PrintMore
attribute [local go_sem] Oper.semAt_some
set_option linter.unusedVariables false
set_option linter.unusedSimpArgs false
theorem new_box' (w : World) (v : Value) (t : TypeId) : ∃ w1, w.alloc (.cells #[v] t) = w1 ∧ w1.heap[w.heap.size]? = some (.cells #[v] t (0, 0)) ∧ Below w.heap.size w w1 := ⟨_, rfl, heap_alloc_new w _, below_alloc (Below.refl _ w) _⟩
theorem new_box2 (w : World) (q : Nat) (a v : Value) (t : TypeId) : ∃ w1, ((w.drewN q).alloc (.cells #[a] t)).setCell ⟨w.heap.size, 0, none⟩ v = w1 ∧ w1.heap[w.heap.size]? = some (.cells #[v] t (0, 0)) ∧ Below w.heap.size w w1 :=
  ⟨_, rfl, p1_0 (heap_alloc_new (w.drewN q) _), ((pw_below_drewN (Below.refl _ w) q).alloc (Nat.le_refl _) _).setCell (p := ⟨w.heap.size, 0, none⟩) (Nat.le_refl _) _⟩
def boolsOf (l : List Bool) : Array Value := (l.map Value.bool).toArray
theorem make_seen (N : Nat) (hN : N ≤ 121) (w : World) : ∃ wm, (Instr.makeSlice 34 (.int .i64 (N : Int)) (.int .i64 (N : Int))).run Try.prog w = .ok (.slice (some ⟨w.heap.size, 0, none⟩) N N) wm ∧ wm.heap[w.heap.size]? = some (.cells (boolsOf (List.replicate N false)) 4 (0, 0)) ∧ Below w.heap.size w wm ∧ wm.heap.size = w.heap.size + 1 := by
  have h := run_makeSlice (P := Try.prog) w 34 4 Try.t4 (.bool false) Try.underlying34 (by kernel_rfl) (by kernel_rfl) .i64 .i64 (N : Int) (N : Int) (by omega) (Int.le_refl _) (by show (N : Int).toNat * 1 ≤ _; omega) (by show ((1 : Nat) : Int) * (N : Int) ≤ _; omega) (by omega)
  refine ⟨_, by simpa [show Try.t4.size = 1 from rfl, Value.cells] using h, ?_, below_alloc (Below.refl _ _) _, World.size_alloc _ _⟩
  have e : madeCells #[Value.bool false] N = boolsOf (List.replicate N false) := by
    unfold madeCells boolsOf
    apply Array.ext
    · simp
    · intro i h1 h2
      simp [Nat.mod_one]
  rw [← e]
  exact heap_alloc_new w _
/-- The law's memory at the beginning of a round. -/
structure Mm (W wn : World) (gr bt bn bs sg bm gt N : Nat) (seen : List Bool) (many : Int) (w : World) : Prop where
  r : w.heap[gr]? = some (.cells #[.bool false] 4 (0, 0))
  t : w.heap[bt]? = some (.cells #[.pointer (some ⟨gt, 0, none⟩)] 25 (0, 0))
  n : w.heap[bn]? = some (.cells #[.int .i64 (N : Int)] 3 (0, 0))
  s : w.heap[bs]? = some (.cells #[.slice (some ⟨sg, 0, none⟩) N N] 34 (0, 0))
  g : w.heap[sg]? = some (.cells (boolsOf seen) 4 (0, 0))
  m : w.heap[bm]? = some (.cells #[.int .i64 many] 3 (0, 0))
  b : Below W.heap.size W w
  bn_ : Below wn.heap.size wn w
theorem Mm.later {W wn : World} {gr bt bn bs sg bm gt N : Nat} {seen : List Bool} {many : Int} {w w' : World} (h : Mm W wn gr bt bn bs sg bm gt N seen many w) (hb : Below w.heap.size w w') : Mm W wn gr bt bn bs sg bm gt N seen many w' :=
  ⟨blk_below h.r hb, blk_below h.t hb, blk_below h.n hb, blk_below h.s hb, blk_below h.g hb, blk_below h.m hb, below_step h.b hb, below_step h.bn_ hb⟩
theorem Mm.own {W wn : World} {gr bt bn bs sg bm gt N : Nat} {seen : List Bool} {many : Int} {A B : World} {row : Option Nat} {B0 : Nat} (h : Mm W wn gr bt bn bs sg bm gt N seen many A) (hg : A.grownBy B row) (hr : ∀ r, row = some r → B0 ≤ r ∧ ∃ o : Obj, A.heap[r]? = some o ∧ o.isCells = false) (h1 : W.heap.size ≤ B0) (h2 : wn.heap.size ≤ B0) : Mm W wn gr bt bn bs sg bm gt N seen many B :=
  have hr' := fun r e => (hr r e).2
  ⟨row_kept h.r hg hr', row_kept h.t hg hr', row_kept h.n hg hr', row_kept h.s hg hr', row_kept h.g hg hr', row_kept h.m hg hr', h.b.grown hg h.b.size (fun k e => Nat.le_trans h1 (hr k e).1), h.bn_.grown hg h.bn_.size (fun k e => Nat.le_trans h2 (hr k e).1)⟩
theorem bools_set (l : List Bool) (k : Nat) (b : Bool) : (boolsOf l).setIfInBounds k (.bool b) = boolsOf (l.set k b) := by
  unfold boolsOf
  rw [List.setIfInBounds_toArray, List.map_set]
/-- The blocks for deferred calls that the loops have laid. -/
def marks (ds : List Nat) : List Deferred := ds.map fun D => { target := .collected D, args := #[] }
structure Marked (W : World) (ds : List Nat) (w : World) : Prop where
  nd : ds.Nodup
  at_ : ∀ D ∈ ds, W.heap.size ≤ D ∧ w.heap[D]? = some (.deferred (some []))
theorem Marked.later {W w w' : World} {ds : List Nat} (h : Marked W ds w) (hb : Below w.heap.size w w') : Marked W ds w' := ⟨h.nd, fun D hD => ⟨(h.at_ D hD).1, blk_below (h.at_ D hD).2 hb⟩⟩
theorem leaves_marks {fn : Func} {tmps : Array Value} {R : Ending → World → Prop} {F : Fence} {n : Nat} {W : World} {gr : Nat} {b : Bool}
    (hfin : ∀ w', w'.heap[gr]? = some (.cells #[.bool b] 4 (0, 0)) → Below W.heap.size W w' → LeavesInM F n Try.prog fn tmps R [] .returning w') : ∀ (ds : List Nat) (w : World), Marked W ds w → w.heap[gr]? = some (.cells #[.bool b] 4 (0, 0)) → Below W.heap.size W w → LeavesInM F n Try.prog fn tmps R (marks ds) .returning w
  | [], w, _, h1, h2 => hfin w h1 h2
  | D :: ds, w, hM, h1, h2 => by
    obtain ⟨hD, hK⟩ := hM.at_ D (by simp)
    obtain ⟨hn1, hn2⟩ := List.nodup_cons.1 hM.nd
    have g1 := grownBy_putObj' w D (.deferred none)
    refine ⟨by simp, .inl ⟨D, _, rfl, run_takeDeferred hK, leaves_marks hfin ds _ ⟨hn2, fun D' hD' => ?_⟩ (row_kept h1 g1 (fun r e => by cases e; exact ⟨_, hK, rfl⟩)) (h2.trans (belowK_b (w := W) (Nat.le_refl _) _ D _ (.deferred none) hD hK rfl rfl))⟩⟩
    obtain ⟨a1, a2⟩ := hM.at_ D' (by simp [hD'])
    exact ⟨a1, (g1.block D' (blk_lt a2) (fun e => hn1 (by cases e; exact hD'))).trans a2⟩
theorem Marked.own {W A B : World} {ds : List Nat} {row : Option Nat} {B0 : Nat} (h : Marked W ds A) (hg : A.grownBy B row) (hr : ∀ r, row = some r → B0 ≤ r) (hd : ∀ D ∈ ds, D < B0) : Marked W ds B :=
  ⟨h.nd, fun D hD => ⟨(h.at_ D hD).1, (hg.block D (blk_lt (h.at_ D hD).2) (fun e => by have := hr D e.symm; have := hd D hD; omega)).trans (h.at_ D hD).2⟩⟩
/-- What a round stores. -/
theorem stores {W wn : World} {gr bt bn bs sg bm gt N : Nat} {seen : List Bool} {many : Int} {w : World} (h : Mm W wn gr bt bn bs sg bm gt N seen many w) {bl : Nat} {v : Value} (hl : w.heap[bl]? = some (.cells #[v] 3 (0, 0))) (ne1 : gr ≠ sg) (ne2 : bn ≠ bm) (ne3 : bn ≠ bl) (ne4 : bm ≠ bl)
    (g1 : W.heap.size ≤ sg ∧ W.heap.size ≤ bl ∧ W.heap.size ≤ bm) (g2 : wn.heap.size ≤ sg ∧ wn.heap.size ≤ bl ∧ wn.heap.size ≤ bm) (k : Nat) (c m' : Int) :
    Mm W wn gr bt bn bs sg bm gt N (seen.set k true) m' (((w.setCell ⟨sg, k, none⟩ (.bool true)).setCell ⟨bl, 0, none⟩ (.int .i64 c)).setCell ⟨bm, 0, none⟩ (.int .i64 m')) ∧
    (((w.setCell ⟨sg, k, none⟩ (.bool true)).setCell ⟨bl, 0, none⟩ (.int .i64 c)).setCell ⟨bm, 0, none⟩ (.int .i64 m')).heap[bl]? = some (.cells #[.int .i64 c] 3 (0, 0)) ∧
    ∀ (D : Nat) (o : Obj), D ≠ sg → D ≠ bl → D ≠ bm → w.heap[D]? = some o → (((w.setCell ⟨sg, k, none⟩ (.bool true)).setCell ⟨bl, 0, none⟩ (.int .i64 c)).setCell ⟨bm, 0, none⟩ (.int .i64 m')).heap[D]? = some o := by
  have hk : ∀ (D : Nat) (o : Obj), D ≠ sg → D ≠ bl → D ≠ bm → w.heap[D]? = some o → (((w.setCell ⟨sg, k, none⟩ (.bool true)).setCell ⟨bl, 0, none⟩ (.int .i64 c)).setCell ⟨bm, 0, none⟩ (.int .i64 m')).heap[D]? = some o := fun D o n1 n2 n3 hD =>
    (Below.heap_setCell _ _ _ _ n3).trans ((Below.heap_setCell _ _ _ _ n2).trans ((Below.heap_setCell _ _ _ _ n1).trans hD))
  have ns : ∀ {D : Nat} {cs cs' : Array Value} {t t' : TypeId}, w.heap[D]? = some (.cells cs t (0, 0)) → ∀ {E : Nat}, w.heap[E]? = some (.cells cs' t' (0, 0)) → t ≠ t' → D ≠ E := fun h1 _ h2 ht e => by subst e; rw [h1] at h2; cases h2; exact ht rfl
  have nbs : bl ≠ sg := ns hl h.g (by decide)
  have nms : bm ≠ sg := ns h.m h.g (by decide)
  refine ⟨⟨hk gr _ ne1 (ns h.r hl (by decide)) (ns h.r h.m (by decide)) h.r, hk bt _ (ns h.t h.g (by decide)) (ns h.t hl (by decide)) (ns h.t h.m (by decide)) h.t, hk bn _ (ns h.n h.g (by decide)) ne3 ne2 h.n, hk bs _ (ns h.s h.g (by decide)) (ns h.s hl (by decide)) (ns h.s h.m (by decide)) h.s, ?_, ?_, ?_, ?_⟩, ?_, hk⟩
  · refine (Below.heap_setCell _ _ _ _ (Ne.symm nms)).trans ((Below.heap_setCell _ _ _ _ (Ne.symm nbs)).trans ?_)
    exact blk_put h.g k (.bool true) (bools_set seen k true)
  · exact p1_0 ((Below.heap_setCell _ _ _ _ ne4).trans ((Below.heap_setCell _ _ _ _ nms).trans h.m))
  · exact ((h.b.setCell (p := ⟨sg, k, none⟩) g1.1 _).setCell (p := ⟨bl, 0, none⟩) g1.2.1 _).setCell (p := ⟨bm, 0, none⟩) g1.2.2 _
  · exact ((h.bn_.setCell (p := ⟨sg, k, none⟩) g2.1 _).setCell (p := ⟨bl, 0, none⟩) g2.2.1 _).setCell (p := ⟨bm, 0, none⟩) g2.2.2 _
  · exact (Below.heap_setCell _ _ _ _ (Ne.symm ne4)).trans (p1_0 ((Below.heap_setCell _ _ _ _ nbs).trans hl))
def mu (N : Nat) (a : Act) (w : World) : Nat := match a.tmps.getD 8 undef with | .pointer (some p) => (match w.cell? p with | some (.int _ i) => N - i.toNat | _ => 0) | _ => 0
theorem mu_eq {N : Nat} {a : Act} {w : World} {b : Nat} {i : Int} (h1 : a.tmps.getD 8 undef = .pointer (some ⟨b, 0, none⟩)) (h2 : w.cell? ⟨b, 0, none⟩ = some (.int .i64 i)) : mu N a w = N - i.toNat := by
  unfold mu
  rw [h1]
  simp only [h2]
theorem keepsOthers_drewN (W : World) (q : Nat) : KeepsOthers W (W.drewN q) := KeepsOthers.of_grownBy (drawn_by W q) (fun j o e => by cases e)
theorem meas_gap {b z : Int} (h : z = b + 1) (h0 : 0 ≤ b) (h1 : b ≤ 255) : 300 - (intOf (.int .i64 z)).toNat < 300 - (intOf (.int .i64 b)).toNat := by
  subst h
  simp only [intOf]
  omega
theorem children_new (gt : Nat) (n : Int) (X : World) : Calls Try.prog 18 #[.pointer (some ⟨gt, 0, none⟩), .int .i64 n] X fun e W => ∃ bt bn, e = .returned (.func (.func 24) #[] #[.pointer (some ⟨bt, 0, none⟩), .pointer (some ⟨bn, 0, none⟩)]) ∧ X.heap.size ≤ bt ∧ X.heap.size ≤ bn ∧ W.heap[bt]? = some (.cells #[.pointer (some ⟨gt, 0, none⟩)] 25 (0, 0)) ∧ W.heap[bn]? = some (.cells #[.int .i64 n] 3 (0, 0)) ∧ Below X.heap.size X W := by
  go_enter Try.func18, Try.ntmps18
  go_wp2
  go_ret
  exact ⟨_, _, rfl, Nat.le_refl _, Nat.le_succ _, blk_alloc (heap_alloc_new X _) _, by rw [← World.size_alloc]; exact heap_alloc_new _ _, below_alloc (below_alloc (Below.refl _ _) _) _⟩
set_option maxHeartbeats 8000000 in
set_option maxRecDepth 100000 in
theorem trieChildren_walk {W : World} {A : Option Addr} {n cp : Nat} {ws : List ByteArray} (hr : Kd.C Kd.string W A n ws) :
    Calls Try.prog 6 #[.slice A n cp] W fun e w' => e = .returned (.bool true) ∧ Below W.heap.size W w' := by
  have hf24 := func_nil24
  have HR := Aside0.mk hr
  have HB := Aside0.mk (Below.refl W.heap.size W)
  clear hr
  refine (callsIn_wide (n := 19)).1 ?_
  refine callsIn_of_wp_marks Try.func6 rfl trivial ?_ rfl
  refine (wpIn_wide (n := 19)).2 ?_
  simp only [Try.ntmps6, List.size_toArray, List.length_cons, List.length_nil, Nat.reduceAdd, Nat.reduceSub, Array.replicate_succ, Array.replicate_zero, List.push_toArray, List.append_toArray, List.nil_append, List.cons_append]
  go_upto_region 3 with (first
    | ((with_reducible refine gate_dst (N := 2) rfl ?_); refine box_event ?hg (N := 2) ?hd (cs := #[.bool false]) (t := 4) ?hr ?_; (case hd => rfl); (case hg => rfl); (case hr => first | (go_simp; done) | (go_simp; rfl)); intro gr hg_ wr_ hbox hb; have Gr := Aside0.mk (bsz (bl HB.out) hg_ : W.heap.size ≤ gr); replace HB := sb HB hb; have Br := Aside0.mk hbox; clear hbox hb hg_)
    | (go_at_call 9; (with_reducible refine (awake_calls _).mono ?_); rintro e w_ ⟨rfl, hb⟩; replace HB := sb HB hb; replace Br := Aside0.mk (blk_below (kp Br.out) hb); clear hb)
    | (go_at_call 10; (with_reducible refine (few_calls (Kd.C_below HR.out (bl HB.out))).mono ?_); rintro e w_ ⟨v2, rfl, hR2, hb⟩; obtain ⟨xs, hxs⟩ : ∃ xs, xs = fewV ws := ⟨_, rfl⟩; rw [← hxs] at hR2; obtain ⟨A2, c2, rfl⟩ := Kd.R_slice hR2; replace HB := sb HB hb; replace Br := Aside0.mk (blk_below (kp Br.out) hb); have HX := Aside0.mk (And.intro (Kd.R_reads' hR2).2.2 (And.intro (show xs.length ≤ 20 by rw [hxs]; exact fewV_len ws) (show ∀ x ∈ xs, x.size ≤ 6 by rw [hxs]; exact fun x hx => fewV_size hx))); clear hb hR2 hxs)
    | (go_at_call 11; (with_reducible refine (build_calls HX.out.1 (Nat.le_trans HX.out.2.1 (by decide)) (fun x hx => Nat.le_trans (HX.out.2.2 x hx) (by decide))).mono ?_); rintro e wn ⟨gt, rfl, h1, h2, hT, hb⟩; replace HB := sb HB hb; replace Br := Aside0.mk (blk_below (kp Br.out) hb); have HT := Aside0.mk hT; clear hb hT h1 h2))
  obtain ⟨w1, hw1, hb1, hb2⟩ := new_box' wn (.pointer (some ⟨gt, 0, none⟩)) 25
  rw [hw1]
  obtain ⟨bt, hbt⟩ : ∃ bt, wn.heap.size = bt := ⟨_, rfl⟩
  rw [hbt] at hb1 ⊢
  have Nn := Aside0.mk (And.intro hbt hb2)
  replace Br := Aside0.mk (blk_below (kp Br.out) hb2)
  replace HB := sb HB hb2
  have Bt := Aside0.mk hb1
  have cb := hc1 hb1
  obtain ⟨P, hP⟩ : ∃ P, nodes (xs.map strOf) = P := ⟨_, rfl⟩
  obtain ⟨wd, hwd⟩ : ∃ wd, (nodes (xs.map strOf)).map (find (xs.map strOf)) = wd := ⟨_, rfl⟩
  obtain ⟨base, hba⟩ : ∃ base, w_.heap.size = base := ⟨_, rfl⟩
  have HT0 := HT.out
  rw [hwd, hP, hba] at HT0
  have HT := Aside0.mk HT0
  have HT1 := Aside0.mk (HT0.below hb2)
  have hPl : P.length ≤ 121 := by
    rw [← hP]
    have h1 := nodes_len (xs.map strOf) [[]] 6 (fun w hw => by obtain ⟨x, hx, rfl⟩ := List.mem_map.1 hw; rw [strOf_len]; exact HX.out.2.2 x hx)
    have h2 := HX.out.2.1
    rw [List.length_map] at h1
    show (nodesFrom [[]] _).length ≤ 121
    simp at h1
    omega
  have HP := Aside0.mk hPl
  have qq1 : decide ((121 : Int) < (P.length : Int)) = false := by simp; omega
  clear hw1 hbt hb1 hb2 hP hwd hba HT0 HX HR hPl
  have fr1 : ∀ q : Nat, ((w1.drewN q).alloc (.cells #[.int .i64 0] 3)).frozen? ⟨w1.heap.size, 0, none⟩ = false := fun q => blk_frozen (heap_alloc_new (w1.drewN q) _) 0
  have cc1 : ∀ q : Nat, ((w1.drewN q).alloc (.cells #[.int .i64 0] 3)).cell? ⟨w1.heap.size, 0, none⟩ = some (.int .i64 0) := fun q => hc1 (heap_alloc_new (w1.drewN q) _)
  go_upto_region 6 with (first
    | (go_at_call 12; (with_reducible refine (len_calls HT1.out).mono ?_); rintro e w2 ⟨rfl, ⟨q4, rfl⟩⟩))
  obtain ⟨w2, hw2, hb1, hb2⟩ := new_box2 w1 q4 (.int .i64 0) (.int .i64 (P.length : Int)) 3
  rw [hw2]
  obtain ⟨bn, hbn⟩ : ∃ bn, w1.heap.size = bn := ⟨_, rfl⟩
  rw [hbn] at hb1 ⊢
  replace Nn := Aside0.mk (And.intro Nn.out.1 (below_step Nn.out.2 hb2))
  replace Br := Aside0.mk (blk_below (kp Br.out) hb2)
  replace Bt := Aside0.mk (blk_below (kp Bt.out) hb2)
  replace HB := sb HB hb2
  have Bn := Aside0.mk hb1
  clear cb
  have cb := hc1 Bt.out
  have cn := hc1 hb1
  clear fr1 cc1 hw2 hb1 hb2 hbn HT1
  have qq2 := eq_true (show (0 : Int) ≤ (P.length : Int) by omega)
  obtain ⟨wm, hmk, hm1, hm2, hm3⟩ := make_seen P.length HP.out w2
  obtain ⟨sg, hsg⟩ : ∃ sg, w2.heap.size = sg := ⟨_, rfl⟩
  rw [hsg] at hmk hm1 hm3
  have Br0 := Br; have Bn0 := Bn; have Nn0 := Nn; have HB0 := HB
  replace Nn := Aside0.mk (And.intro Nn.out.1 (below_step Nn.out.2 hm2))
  replace Br := Aside0.mk (blk_below (kp Br.out) hm2)
  replace Bt := Aside0.mk (blk_below (kp Bt.out) hm2)
  replace Bn := Aside0.mk (blk_below (kp Bn.out) hm2)
  replace HB := sb HB hm2
  have Bg := Aside0.mk hm1
  have NE1 := Aside0.mk (show gr ≠ sg ∧ bn < sg ∧ wn.heap.size ≤ sg ∧ W.heap.size ≤ sg by
    have l1 := blk_lt Br0.out; have l2 := blk_lt Bn0.out; rw [hsg] at l1 l2; exact ⟨Nat.ne_of_lt l1, l2, by rw [← hsg]; exact Nn0.out.2.size, by rw [← hsg]; exact HB0.out.size⟩)
  clear hm1 hm2 hm3 hsg Br0 Bn0 Nn0 HB0
  go_upto_region 7 with (fail)
  clear hmk cb cn
  obtain ⟨w3, hw3, hb1, hb2⟩ := new_box' wm (.slice (some ⟨sg, 0, none⟩) P.length P.length) 34
  rw [hw3]
  obtain ⟨bs, hbs⟩ : ∃ bs, wm.heap.size = bs := ⟨_, rfl⟩
  rw [hbs] at hb1 ⊢
  have HM3 := Aside0.mk (And.intro (And.intro (blk_below Br.out hb2) (blk_below Bt.out hb2)) (And.intro (blk_below Bn.out hb2) (And.intro hb1 (And.intro (blk_below Bg.out hb2) (And.intro (below_step HB.out hb2) (below_step Nn.out.2 hb2))))))
  clear hw3 hb1 hb2 hbs Br Bt Bn Bg HB Nn
  go_upto_region 8 with (fail)
  obtain ⟨w4, hw4, hb1, hb2⟩ := new_box' w3 (.int .i64 0) 3
  rw [hw4]
  obtain ⟨bm, hbm⟩ : ∃ bm, w3.heap.size = bm := ⟨_, rfl⟩
  rw [hbm] at hb1 ⊢
  have HM4 : Aside0 (Mm W wn gr bt bn bs sg bm gt P.length (List.replicate P.length false) 0 w4) := ⟨⟨blk_below HM3.out.1.1 hb2, blk_below HM3.out.1.2 hb2, blk_below HM3.out.2.1 hb2, blk_below HM3.out.2.2.1 hb2, blk_below HM3.out.2.2.2.1 hb2, hb1, below_step HM3.out.2.2.2.2.1 hb2, below_step HM3.out.2.2.2.2.2 hb2⟩⟩
  have NE2 := Aside0.mk (show sg < bm by rw [← hbm]; exact blk_lt HM3.out.2.2.2.1)
  clear hw4 hb1 hb2 hbm HM3
  go_wp2_with (fail)
  obtain ⟨w5, hw5, hb1, hb2⟩ := new_box' w4 (.int .i64 0) 3
  rw [hw5]
  obtain ⟨b8, hb8⟩ : ∃ b8, w4.heap.size = b8 := ⟨_, rfl⟩
  rw [hb8] at hb1 ⊢
  have HM5 := Aside0.mk (HM4.out.later hb2)
  have B8 := Aside0.mk hb1
  have L8 := Aside0.mk (show bm < b8 by rw [← hb8]; exact blk_lt HM4.out.m)
  clear hw5 hb1 hb2 hb8 HM4
  refine wp_loop (fun a' w' => ∃ (i b8 : Nat) (ds : List Nat) (seen : List Bool) (many : Int) (u9 u10 u11 u12 u13 u14 u15 u16 u17 u32 u33 u34 u35 u36 u37 u38 u39 u40 u41 u42 u43 u44 u45 u46 u47 u48 u49 u50 u51 u52 u53 u54 u55 u56 u57 u58 u59 u60 u61 u62 u63 u64 u65 u66 u67 u68 u69 u70 u71 u72 u73 u74 u75 u76 u77 u78 u79 u80 u81 u82 u83 u84 u85 u86 u87 u88 u89 u90 u91 u92 u93 u94 u95 u96 u97 u98 u99 u100 u101 u102 u103 u104 : Value),
    Aside0 (i ≤ P.length ∧ bm < b8 ∧ Mm W wn gr bt bn bs sg bm gt P.length seen many w' ∧ w'.heap[b8]? = some (.cells #[.int .i64 (i : Int)] 3 (0, 0)) ∧ Marked W ds w' ∧ SeenAt P i seen many) ∧
    a' = Act.mk (List.toArray (List.cons (Value.slice A n cp) (List.cons undef (List.cons (Value.pointer (some ⟨gr, 0, none⟩)) (List.cons (Value.bool true) (List.cons (Value.pointer (some ⟨bt, 0, none⟩)) (List.cons (Value.pointer (some ⟨bn, 0, none⟩)) (List.cons (Value.pointer (some ⟨bs, 0, none⟩)) (List.cons (Value.pointer (some ⟨bm, 0, none⟩)) (List.cons (Value.pointer (some ⟨b8, 0, none⟩)) (List.cons u9 (List.cons u10 (List.cons u11 (List.cons u12 (List.cons u13 (List.cons u14 (List.cons u15 (List.cons u16 (List.cons u17 (List.cons undef (List.cons undef (List.cons undef (List.cons undef (List.cons (Value.bool true) (List.cons (Value.slice A n cp) (List.cons (Value.slice A2 xs.length c2) (List.cons (Value.pointer (some ⟨gt, 0, none⟩)) (List.cons (Value.pointer (some ⟨gt, 0, none⟩)) (List.cons (Value.int .i64 (P.length : Int)) (List.cons (Value.int .i64 (P.length : Int)) (List.cons (Value.bool false) (List.cons (Value.int .i64 (P.length : Int)) (List.cons (Value.slice (some ⟨sg, 0, none⟩) P.length P.length) (List.cons u32 (List.cons u33 (List.cons u34 (List.cons u35 (List.cons u36 (List.cons u37 (List.cons u38 (List.cons u39 (List.cons u40 (List.cons u41 (List.cons u42 (List.cons u43 (List.cons u44 (List.cons u45 (List.cons u46 (List.cons u47 (List.cons u48 (List.cons u49 (List.cons u50 (List.cons u51 (List.cons u52 (List.cons u53 (List.cons u54 (List.cons u55 (List.cons u56 (List.cons u57 (List.cons u58 (List.cons u59 (List.cons u60 (List.cons u61 (List.cons u62 (List.cons u63 (List.cons u64 (List.cons u65 (List.cons u66 (List.cons u67 (List.cons u68 (List.cons u69 (List.cons u70 (List.cons u71 (List.cons u72 (List.cons u73 (List.cons u74 (List.cons u75 (List.cons u76 (List.cons u77 (List.cons u78 (List.cons u79 (List.cons u80 (List.cons u81 (List.cons u82 (List.cons u83 (List.cons u84 (List.cons u85 (List.cons u86 (List.cons u87 (List.cons u88 (List.cons u89 (List.cons u90 (List.cons u91 (List.cons u92 (List.cons u93 (List.cons u94 (List.cons u95 (List.cons u96 (List.cons u97 (List.cons u98 (List.cons u99 (List.cons u100 (List.cons u101 (List.cons u102 (List.cons u103 (List.cons u104 (List.cons undef (List.cons undef (List.cons undef (List.cons undef (List.cons undef (List.cons undef (List.cons undef (List.cons undef (List.cons undef (List.cons undef (List.cons undef (List.cons undef (List.cons undef (List.cons undef (List.cons undef (List.cons undef (List.cons undef (List.cons undef (List.cons undef (List.cons undef (List.cons undef (List.cons undef (List.cons undef (List.cons undef (List.cons undef (List.cons undef List.nil)))))))))))))))))))))))))))))))))))))))))))))))))))))))))))))))))))))))))))))))))))))))))))))))))))))))))))))))))))))))))))))))))))) (marks ds)) (mu P.length) ?start ?round
  case start =>
    refine ⟨0, b8, [], List.replicate P.length false, 0, ?_⟩
    repeat apply Exists.intro
    refine ⟨⟨Nat.zero_le _, L8.out, HM5.out, B8.out, ⟨List.nodup_nil, fun _ h => (by cases h)⟩, SeenAt.start P⟩, rfl⟩
  case round =>
    clear HM5 B8 L8
    intro a w hinv
    obtain ⟨i, b8, ds, seen, many, hinv⟩ := hinv
    obtain ⟨u9, hinv⟩ := hinv
    obtain ⟨u10, hinv⟩ := hinv
    obtain ⟨u11, hinv⟩ := hinv
    obtain ⟨u12, hinv⟩ := hinv
    obtain ⟨u13, hinv⟩ := hinv
    obtain ⟨u14, hinv⟩ := hinv
    obtain ⟨u15, hinv⟩ := hinv
    obtain ⟨u16, hinv⟩ := hinv
    obtain ⟨u17, hinv⟩ := hinv
    obtain ⟨u32, hinv⟩ := hinv
    obtain ⟨u33, hinv⟩ := hinv
    obtain ⟨u34, hinv⟩ := hinv
    obtain ⟨u35, hinv⟩ := hinv
    obtain ⟨u36, hinv⟩ := hinv
    obtain ⟨u37, hinv⟩ := hinv
    obtain ⟨u38, hinv⟩ := hinv
    obtain ⟨u39, hinv⟩ := hinv
    obtain ⟨u40, hinv⟩ := hinv
    obtain ⟨u41, hinv⟩ := hinv
    obtain ⟨u42, hinv⟩ := hinv
    obtain ⟨u43, hinv⟩ := hinv
    obtain ⟨u44, hinv⟩ := hinv
    obtain ⟨u45, hinv⟩ := hinv
    obtain ⟨u46, hinv⟩ := hinv
    obtain ⟨u47, hinv⟩ := hinv
    obtain ⟨u48, hinv⟩ := hinv
    obtain ⟨u49, hinv⟩ := hinv
    obtain ⟨u50, hinv⟩ := hinv
    obtain ⟨u51, hinv⟩ := hinv
    obtain ⟨u52, hinv⟩ := hinv
    obtain ⟨u53, hinv⟩ := hinv
    obtain ⟨u54, hinv⟩ := hinv
    obtain ⟨u55, hinv⟩ := hinv
    obtain ⟨u56, hinv⟩ := hinv
    obtain ⟨u57, hinv⟩ := hinv
    obtain ⟨u58, hinv⟩ := hinv
    obtain ⟨u59, hinv⟩ := hinv
    obtain ⟨u60, hinv⟩ := hinv
    obtain ⟨u61, hinv⟩ := hinv
    obtain ⟨u62, hinv⟩ := hinv
    obtain ⟨u63, hinv⟩ := hinv
    obtain ⟨u64, hinv⟩ := hinv
    obtain ⟨u65, hinv⟩ := hinv
    obtain ⟨u66, hinv⟩ := hinv
    obtain ⟨u67, hinv⟩ := hinv
    obtain ⟨u68, hinv⟩ := hinv
    obtain ⟨u69, hinv⟩ := hinv
    obtain ⟨u70, hinv⟩ := hinv
    obtain ⟨u71, hinv⟩ := hinv
    obtain ⟨u72, hinv⟩ := hinv
    obtain ⟨u73, hinv⟩ := hinv
    obtain ⟨u74, hinv⟩ := hinv
    obtain ⟨u75, hinv⟩ := hinv
    obtain ⟨u76, hinv⟩ := hinv
    obtain ⟨u77, hinv⟩ := hinv
    obtain ⟨u78, hinv⟩ := hinv
    obtain ⟨u79, hinv⟩ := hinv
    obtain ⟨u80, hinv⟩ := hinv
    obtain ⟨u81, hinv⟩ := hinv
    obtain ⟨u82, hinv⟩ := hinv
    obtain ⟨u83, hinv⟩ := hinv
    obtain ⟨u84, hinv⟩ := hinv
    obtain ⟨u85, hinv⟩ := hinv
    obtain ⟨u86, hinv⟩ := hinv
    obtain ⟨u87, hinv⟩ := hinv
    obtain ⟨u88, hinv⟩ := hinv
    obtain ⟨u89, hinv⟩ := hinv
    obtain ⟨u90, hinv⟩ := hinv
    obtain ⟨u91, hinv⟩ := hinv
    obtain ⟨u92, hinv⟩ := hinv
    obtain ⟨u93, hinv⟩ := hinv
    obtain ⟨u94, hinv⟩ := hinv
    obtain ⟨u95, hinv⟩ := hinv
    obtain ⟨u96, hinv⟩ := hinv
    obtain ⟨u97, hinv⟩ := hinv
    obtain ⟨u98, hinv⟩ := hinv
    obtain ⟨u99, hinv⟩ := hinv
    obtain ⟨u100, hinv⟩ := hinv
    obtain ⟨u101, hinv⟩ := hinv
    obtain ⟨u102, hinv⟩ := hinv
    obtain ⟨u103, hinv⟩ := hinv
    obtain ⟨u104, hinv⟩ := hinv
    obtain ⟨HI, ha⟩ := hinv
    subst ha
    have cb := hc1 HI.out.2.2.1.t
    have cn := hc1 HI.out.2.2.1.n
    have c8 := hc1 HI.out.2.2.2.1
    by_cases hlt : i < P.length
    · have hd : decide ((i : Int) < (P.length : Int)) = true := by simp; omega
      have hq_ := eq_true hlt
      have HLT := Aside0.mk hlt
      obtain ⟨p, hp⟩ : ∃ p, P[i]? = some p := ⟨_, List.getElem?_eq_getElem hlt⟩
      have HPI := Aside0.mk hp
      have HB := Aside0.mk (Below.refl w.heap.size w)
      clear hlt hp
      go_wp2_with (first
        | (go_at_call 18; (with_reducible refine (children_new gt (i : Int) _).mono ?_); rintro e w6 ⟨ct, cn_, rfl, hct, hcn, hbt, hbn, hb⟩; replace HB := sb HB hb; have HC := Aside0.mk (And.intro hbt hbn); clear hct hcn hbt hbn hb))
      obtain ⟨w7, hw7, hb1, hb2⟩ := new_box' w6 (.int .i64 (-1)) 3
      rw [hw7]
      obtain ⟨bl, hbl⟩ : ∃ bl, w6.heap.size = bl := ⟨_, rfl⟩
      rw [hbl] at hb1 ⊢
      have HM7 := Aside0.mk ((HI.out.2.2.1.later HB.out).later hb2)
      have HK7 := Aside0.mk ((HI.out.2.2.2.2.1.later HB.out).later hb2)
      have H87 := Aside0.mk (blk_below (blk_below HI.out.2.2.2.1 HB.out) hb2)
      have HC7 := Aside0.mk (And.intro (blk_below HC.out.1 hb2) (blk_below HC.out.2 hb2))
      have HL7 := Aside0.mk hb1
      have LB := Aside0.mk (show b8 < bl by rw [← hbl]; exact blk_lt (blk_below HI.out.2.2.2.1 HB.out))
      have HS := Aside0.mk HI.out.2.2.2.2.2
      have LB8 := Aside0.mk HI.out.2.1
      have HMU := Aside0.mk c8
      have DLT := Aside0.mk (fun D hD => blk_lt (HK7.out.at_ D hD).2)
      have SZ := Aside0.mk (And.intro HM7.out.b.size HM7.out.bn_.size)
      clear hw7 hb1 hb2 hbl HC HB HI cb cn c8
      refine (wpIn_wide (n := 19)).1 ?_
      refine wpIn_rangeFunc_ownG rfl (by omega) (gf := 24) (lb := #[.pointer (some ⟨ct, 0, none⟩), .pointer (some ⟨cn_, 0, none⟩)]) rfl trivial (enters_of Try.func24 (by kernel_rfl) rfl)
        (children_stops HT.out i HLT.out p HPI.out 18 (by omega) ct cn_ w7 HM7.out.bn_ HC7.out.1 HC7.out.2)
        KpC_t (fun W l o o' hl h hc _ => KpC_b W l o o' (Nat.le_trans SZ.out.2 hl) h hc) (Below.refl _ _) (fun _ => rfl)
        (fun pre W' => ∃ (last : Int) (sn : List Bool) (m : Int), chks (kidF P p) (-1, seen, many) (pre.map (fun y => y.1)) = some (last, sn, m) ∧ Mm W wn gr bt bn bs sg bm gt P.length sn m W' ∧ W'.heap[bl]? = some (.cells #[.int .i64 last] 3 (0, 0)) ∧ W'.heap[b8]? = some (.cells #[.int .i64 (i : Int)] 3 (0, 0)) ∧ Marked W ds W')
        (fun cc pre W' => cc = .ret ∧ chks (kidF P p) (-1, seen, many) (pre.map (fun y => y.1)) = none)
        ?own (fun cc => fun _ _ _ _ hs _ _ => hs)
        ⟨-1, seen, many, rfl, HM7.out, HL7.out, H87.out, HK7.out⟩ ?a1 ?assign ?body ?done ?stop
      case own =>
        rintro pre A B row ⟨last, sn, m, h1, h2, h3, h4, h5⟩ hg hr
        exact ⟨last, sn, m, h1, h2.own hg hr SZ.out.1 SZ.out.2, row_kept h3 hg (fun r e => (hr r e).2), row_kept h4 hg (fun r e => (hr r e).2), h5.own hg (fun r e => (hr r e).1) DLT.out⟩
      case assign =>
        intro l' y W' K hK
        gi_wp2
        exact hK
      case stop =>
        rintro D cc pre W' hD hS ⟨rfl, hx⟩ hK
        exfalso
        obtain ⟨st, hst⟩ := HS.out.part HT.out.good HPI.out (ys := pre.map (fun y => y.1)) (fun y hy => by obtain ⟨z, _, rfl⟩ := List.mem_map.1 hy; exact z.2) (by rw [List.map_map]; exact hS)
        rw [hst] at hx; cases hx
      case done =>
        rintro D ys W' hD hS ⟨last, sn, m, h1, h2, h3, h4, h5⟩ hK
        obtain ⟨st, hst, hsn⟩ := HS.out.step HT.out.good HPI.out (ys := ys.map (fun y => y.1)) (fun y hy => by obtain ⟨z, _, rfl⟩ := List.mem_map.1 hy; exact z.2) (by rw [List.map_map]; exact hS)
        rw [h1] at hst; cases hst
        have HN := Aside0.mk (And.intro h2 (And.intro h4 (And.intro h5 (And.intro hsn (And.intro hD hK)))))
        have c8 := hc1 h4
        have hw_ : wrap64 ((i : Int) + 1) = ((i + 1 : Nat) : Int) := wr_succ (Nat.le_trans HP.out (by decide)) HLT.out
        obtain ⟨z, hz⟩ : ∃ z : Int, z = ((i + 1 : Nat) : Int) := ⟨_, rfl⟩
        rw [← hz] at hw_
        have hw2 : IntKind.i64.wrap ((i : Int) + 1) = z := (i64_w _).trans hw_
        have HZ := Aside0.mk hz
        have cz := hc1 (heap_alloc_new W' (.cells #[.int .i64 (i : Int)] 3))
        have fz := blk_frozen (heap_alloc_new W' (.cells #[.int .i64 (i : Int)] 3)) 0
        clear h1 h2 h3 h4 h5 hsn hD hK hz hS
        go_wp2_with (fail)
        have hX8 := heap_alloc_new W' (.cells #[.int .i64 z] 3)
        have hXB : Below W'.heap.size W' (W'.alloc (.cells #[.int .i64 z] 3)) := below_alloc (Below.refl _ _) _
        refine ⟨⟨i + 1, W'.heap.size, D :: ds, sn, m, ?_⟩, ?_⟩
        · repeat apply Exists.intro
          refine ⟨⟨HLT.out, blk_lt HN.out.1.m, HN.out.1.later hXB, by rw [← HZ.out]; exact hX8, ?_, HN.out.2.2.2.1⟩, rfl⟩
          have hM := HN.out.2.2.1.later hXB
          refine ⟨List.nodup_cons.2 ⟨fun h => Nat.lt_irrefl _ (Nat.lt_of_lt_of_le (DLT.out D h) HN.out.2.2.2.2.1), hM.nd⟩, fun D' hD' => ?_⟩
          rcases List.mem_cons.1 hD' with rfl | h
          · exact ⟨Nat.le_trans SZ.out.1 HN.out.2.2.2.2.1, blk_below HN.out.2.2.2.2.2 hXB⟩
          · exact hM.at_ D' h
        · rw [mu_eq (b := W'.heap.size) (i := z) rfl (hc1 hX8), mu_eq (b := b8) (i := (i : Int)) rfl HMU.out, HZ.out]
          have h_ := HLT.out
          rw [Int.toNat_natCast, Int.toNat_natCast]
          omega
      case body =>
        rintro l' pre y W' ⟨last, sn, m, h1, h2, h3, h4, h5⟩ hlen
        have hch : chks (kidF P p) (-1, seen, many) ((pre ++ [y]).map (fun y => y.1)) = chk (kidF P p) (last, sn, m) y.1 := by rw [List.map_append, List.map_singleton, chks_snoc, h1]; rfl
        obtain ⟨iv1, iv2, iv3, iv4⟩ := chks_inv (N := P.length) (pre.map (fun y => y.1)) h1 (fun y hy => by obtain ⟨z, _, rfl⟩ := List.mem_map.1 hy; exact ⟨z.2.1, z.2.2.1⟩) ⟨by show (-1 : Int) ≤ -1; omega, by show (-1 : Int) ≤ 255; omega⟩ HS.out.len
        have HCH := Aside0.mk hch
        have HMB := Aside0.mk (show 0 ≤ m ∧ m ≤ 1000 by
          have a1 := HS.out.many
          have a2 : seen.count true ≤ seen.length := List.count_le_length
          have a3 := HS.out.len
          have a4 := HP.out
          have a5 := kidsC_len (kidF P p)
          rw [List.length_map] at iv4
          simp only at iv4
          omega)
        obtain ⟨⟨c, k⟩, hc0, hc1_, hk⟩ := y
        simp only at hc0 hc1_ hk iv1 iv2 iv3 iv4
        have hkl := kid_lt hk
        have hkp := kid_pos HT.out.good hk
        have hcv : childV P (i : Int) c = ((k : Int), true) := by
          unfold childV
          rw [if_pos (by have := HLT.out; omega), Int.toNat_natCast, List.getD_eq_getElem?_getD, HPI.out]
          show (match pos P (p ++ [byteOf c]) with | some k => ((k : Int), true) | none => (0, false)) = _
          rw [hk]
        have HCV := Aside0.mk hcv
        obtain ⟨b, hb⟩ : ∃ b, sn[k]? = some b := ⟨_, List.getElem?_eq_getElem (by omega)⟩
        have ck : W'.cell? ⟨sg, k, none⟩ = some (.bool b) := (blk_cell h2.g k).trans (by unfold boolsOf; simp [hb])
        have hbd : sn.getD k false = b := by rw [List.getD_eq_getElem?_getD, hb]; rfl
        have HIN := Aside0.mk (And.intro h2 (And.intro h3 (And.intro h4 h5)))
        have HCC := Aside0.mk (And.intro hc0 (And.intro hc1_ (And.intro hk (And.intro hbd (And.intro hkp hkl)))))
        have HIV := Aside0.mk (And.intro iv1 (And.intro iv2 (And.intro iv3 iv4)))
        have HTW := Aside0.mk (HT.out.below h2.bn_)
        have cb := hc1 h2.t
        have cn := hc1 h2.n
        have cs := hc1 h2.s
        have c8 := hc1 h4
        have cl := hc1 h3
        have cg := hc1 h2.r
        have fg := blk_frozen h2.r 0
        have k1 := eq_true hkl
        have k2 := eq_true (show (0 : Int) ≤ (k : Int) by omega)
        have k3 := eq_false (show ¬ (k : Int) ≤ 0 by omega)
        have k3b := eq_false hkp
        have k4 := eq_false (show ¬ (P.length : Int) ≤ (k : Int) by omega)
        have k5 := eq_false (show ¬ P.length ≤ k by omega)
        clear h1 h2 h3 h4 h5 hch hkp hkl hcv hb hbd iv1 iv2 iv3 iv4 hlen
        by_cases hl : c ≤ last
        · have hl1 := eq_true hl
          have hl2 : decide (c ≤ last) = true := decide_eq_true hl
          gi_wp2_with (first
            | (gi_at_call 19; refine (CallsIn.inRound l' (callsIn_wide.2 (child_calls HTW.out (i : Int) c HCC.out.1 HCC.out.2.1))).mono ?_; rintro e w_ ⟨rfl, ⟨q, rfl⟩⟩; rw [HCV.out])
            | (refine ⟨trivial, ?_⟩; gi_at_call 19; refine (CallsIn.inRound l' (callsIn_wide.2 (child_calls HTW.out (i : Int) c HCC.out.1 HCC.out.2.1))).mono ?_; rintro e w_ ⟨rfl, ⟨q, rfl⟩⟩; rw [HCV.out]))
          refine ⟨((keepsOthers_drewN W' q).trans (KeepsOthers.setCell _ _ _)).from _, rfl, ?_⟩
          rw [HCH.out]
          unfold chk
          rw [if_pos (.inl hl)]
        · have hl1 := eq_false hl
          have hl2 : decide (c ≤ last) = false := decide_eq_false hl
          cases b with
          | true =>
            gi_wp2_with (first
              | (gi_at_call 19; refine (CallsIn.inRound l' (callsIn_wide.2 (child_calls HTW.out (i : Int) c HCC.out.1 HCC.out.2.1))).mono ?_; rintro e w_ ⟨rfl, ⟨q, rfl⟩⟩; rw [HCV.out])
              | (refine ⟨trivial, ?_⟩; gi_at_call 19; refine (CallsIn.inRound l' (callsIn_wide.2 (child_calls HTW.out (i : Int) c HCC.out.1 HCC.out.2.1))).mono ?_; rintro e w_ ⟨rfl, ⟨q, rfl⟩⟩; rw [HCV.out]))
            refine ⟨((keepsOthers_drewN W' q).trans (KeepsOthers.setCell _ _ _)).from _, rfl, ?_⟩
            rw [HCH.out]
            unfold chk
            rw [if_pos (.inr (.inr (.inl HCC.out.2.2.2.1)))]
          | false =>
            gi_wp2_with (first
              | (gi_at_call 19; refine (CallsIn.inRound l' (callsIn_wide.2 (child_calls HTW.out (i : Int) c HCC.out.1 HCC.out.2.1))).mono ?_; rintro e w_ ⟨rfl, ⟨q, rfl⟩⟩; rw [HCV.out])
              | (refine ⟨trivial, ?_⟩; gi_at_call 19; refine (CallsIn.inRound l' (callsIn_wide.2 (child_calls HTW.out (i : Int) c HCC.out.1 HCC.out.2.1))).mono ?_; rintro e w_ ⟨rfl, ⟨q, rfl⟩⟩; rw [HCV.out]))
            obtain ⟨s0, hs0⟩ : ∃ s0 : Int, s0 = last + 1 := ⟨_, rfl⟩
            have hst : wrap64 (last + 1) = s0 := by rw [hs0]; exact w64s (by have := HIV.out.1; omega) (by have := HIV.out.2.1; omega)
            have HS0 := Aside0.mk hs0
            rw [hst]
            clear hst hs0
            gi_loopw [15] (fun v15 wr => ∃ b : Int, v15 = .int .i64 b ∧ Aside0 (last < b ∧ b ≤ 256 ∧ ∀ x : Int, last < x → x < b → x < c → kidF P p x = none) ∧ Aside0 (∃ q, wr = W'.drewN q)) (fun v15 _ => 300 - (intOf v15).toNat)
            case atStart => exact ⟨s0, rfl, ⟨by have := HS0.out; omega, by have := HS0.out; have := HIV.out.2.1; omega, fun x h1 h2 => by have := HS0.out; omega⟩, ⟨q, rfl⟩⟩
            case round =>
              obtain ⟨b, rfl, HG, ⟨⟨q2, rfl⟩⟩⟩ := hrel
              by_cases hbc : b < c
              · have hbd : decide (b < c) = true := decide_eq_true hbc
                have hb1 := eq_true hbc
                have hb0 : 0 ≤ b := by have := HG.out.1; have := HIV.out.1; omega
                have hb2 : b ≤ 255 := by have := HCC.out.2.1; omega
                have hm8 : b % 256 = b := Int.emod_eq_of_lt hb0 (by omega)
                have hw8 : IntKind.u8.wrap b = b := by rw [IntKind.wrap_u8]; exact hm8
                obtain ⟨z, hz⟩ : ∃ z : Int, z = b + 1 := ⟨_, rfl⟩
                have hzz : wrap64 (b + 1) = z := by rw [hz]; exact w64s (by omega) (by omega)
                have hzz2 : IntKind.i64.wrap (b + 1) = z := (i64_w _).trans hzz
                have HZ := Aside0.mk (And.intro hz (And.intro hbc (And.intro hb0 hb2)))
                have hcvb : childV P (i : Int) b = (match kidF P p b with | some k => ((k : Int), true) | none => (0, false)) := by
                  unfold childV
                  rw [if_pos (by have := HLT.out; omega), Int.toNat_natCast, List.getD_eq_getElem?_getD, HPI.out]
                  rfl
                clear hz hbc hb0 hb2
                cases hkb : kidF P p b with
                | none =>
                  rw [hkb] at hcvb
                  have HCVB := Aside0.mk hcvb
                  have HKB := Aside0.mk hkb
                  clear hcvb hkb
                  gi_wp2_with (first
                    | (gi_at_call 19; refine (CallsIn.inRound l' (callsIn_wide.2 (child_calls (HTW.out.below (pw_below_drewN (Below.refl _ _) q2)) (i : Int) b HZ.out.2.2.1 HZ.out.2.2.2))).mono ?_; rintro e w_ ⟨rfl, ⟨q3, rfl⟩⟩; rw [HCVB.out])
                    | (refine ⟨trivial, ?_⟩; gi_at_call 19; refine (CallsIn.inRound l' (callsIn_wide.2 (child_calls (HTW.out.below (pw_below_drewN (Below.refl _ _) q2)) (i : Int) b HZ.out.2.2.1 HZ.out.2.2.2))).mono ?_; rintro e w_ ⟨rfl, ⟨q3, rfl⟩⟩; rw [HCVB.out]))
                  refine ⟨⟨z, rfl, ⟨by have := HG.out.1; have := HZ.out.1; omega, by have := HZ.out.1; have := HZ.out.2.2.2; omega, fun x h1 h2 h3 => ?_⟩, ⟨q2 + q3, rfl⟩⟩, ?_⟩
                  · by_cases hxb : x < b
                    · exact HG.out.2.2 x h1 hxb h3
                    · obtain rfl : x = b := by have := HZ.out.1; omega
                      exact HKB.out
                  · exact meas_gap HZ.out.1 HZ.out.2.2.1 HZ.out.2.2.2
                | some kb =>
                  rw [hkb] at hcvb
                  have HCVB := Aside0.mk hcvb
                  have HKB := Aside0.mk hkb
                  clear hcvb hkb
                  gi_wp2_with (first
                    | (gi_at_call 19; refine (CallsIn.inRound l' (callsIn_wide.2 (child_calls (HTW.out.below (pw_below_drewN (Below.refl _ _) q2)) (i : Int) b HZ.out.2.2.1 HZ.out.2.2.2))).mono ?_; rintro e w_ ⟨rfl, ⟨q3, rfl⟩⟩; rw [HCVB.out])
                    | (refine ⟨trivial, ?_⟩; gi_at_call 19; refine (CallsIn.inRound l' (callsIn_wide.2 (child_calls (HTW.out.below (pw_below_drewN (Below.refl _ _) q2)) (i : Int) b HZ.out.2.2.1 HZ.out.2.2.2))).mono ?_; rintro e w_ ⟨rfl, ⟨q3, rfl⟩⟩; rw [HCVB.out]))
                  refine ⟨((keepsOthers_drewN W' (q2 + q3)).trans (KeepsOthers.setCell _ _ _)).from _, rfl, ?_⟩
                  rw [HCH.out]
                  unfold chk
                  have hg : gap (kidF P p) last c = true := by
                    cases e : gap (kidF P p) last c with
                    | true => rfl
                    | false =>
                      have := gap_false.1 e b HZ.out.2.2.1 HZ.out.2.2.2 HG.out.1 HZ.out.2.1
                      rw [HKB.out] at this; cases this
                  rw [if_pos (.inr (.inr (.inr hg)))]
              · have hbd : decide (b < c) = false := decide_eq_false hbc
                have hb1 := eq_false hbc
                have HBC := Aside0.mk hbc
                have hgp : gap (kidF P p) last c = false := gap_false.2 fun x _ _ h1 h2 => HG.out.2.2 x h1 (by omega) h2
                have HGP := Aside0.mk hgp
                have ob := NE1.out
                have ob2 := NE2.out
                have ob3 := LB8.out
                have ob4 := LB.out
                have HST := Aside0.mk (fun mm : Int => stores (HIN.out.1.later (pw_below_drewN (Below.refl _ _) q2)) (blk_drewN HIN.out.2.1 q2) ob.1 (show bn ≠ bm by omega) (show bn ≠ bl by omega) (show bm ≠ bl by omega) ⟨ob.2.2.2, by omega, by omega⟩ ⟨ob.2.2.1, by omega, by omega⟩ k c mm)
                obtain ⟨m1, hm1⟩ : ∃ m1 : Int, m1 = m + 1 := ⟨_, rfl⟩
                have hmm : wrap64 (m + 1) = m1 := by rw [hm1]; exact w64s (by have := HMB.out; omega) (by have := HMB.out; omega)
                have HM1 := Aside0.mk hm1
                have cm := hc1 HIN.out.1.m
                have fm := blk_frozen HIN.out.1.m 0
                have fl := blk_frozen HIN.out.2.1 0
                have fs := blk_frozen HIN.out.1.g k
                have n1 : bm ≠ bl := by omega
                have n2 : bl ≠ bm := by omega
                have n3 : bm ≠ sg := by omega
                have n4 : sg ≠ bm := by omega
                have n5 : bl ≠ sg := by omega
                have n6 : sg ≠ bl := by omega
                have NEQ := Aside0.mk (And.intro (show b8 ≠ sg by omega) (And.intro (show b8 ≠ bl by omega) (show b8 ≠ bm by omega)))
                have LT7 := Aside0.mk (And.intro (blk_lt HM7.out.g) (And.intro (blk_lt HL7.out) (blk_lt HM7.out.m)))
                clear hm1 hgp ob ob2 ob3 ob4
                gi_wp2
                obtain ⟨st1, st2, st3⟩ := HST.out m1
                refine ⟨((((keepsOthers_drewN W' q2).trans (KeepsOthers.setCell _ _ _)).trans (KeepsOthers.setCell _ _ _)).trans (KeepsOthers.setCell _ _ _)).from _, ⟨?_, fun D o hD ho _ => ?_⟩, c, sn.set k true, m1, ?_, st1, st2, st3 b8 _ NEQ.out.1 NEQ.out.2.1 NEQ.out.2.2 (blk_drewN HIN.out.2.2.1 q2), ⟨HIN.out.2.2.2.nd, fun D hD => ?_⟩⟩
                · exact (((pw_below_drewN (Below.refl _ _) q2).setCell (p := ⟨sg, k, none⟩) NE1.out.2.2.1 _).setCell (p := ⟨bl, 0, none⟩) (show wn.heap.size ≤ bl by have := NE1.out; have := NE2.out; have := LB8.out; have := LB.out; omega) _).setCell (p := ⟨bm, 0, none⟩) (show wn.heap.size ≤ bm by have := NE1.out; have := NE2.out; omega) _
                · exact st3 D o (fun e => by have := LT7.out; omega) (fun e => by have := LT7.out; omega) (fun e => by have := LT7.out; omega) (blk_drewN ho q2)
                · rw [HCH.out]
                  unfold chk
                  rw [if_neg (by simp only [not_or]; exact ⟨by omega, HCC.out.2.2.2.2.1, by rw [HCC.out.2.2.2.1]; simp, by rw [HGP.out]; simp⟩), HM1.out]
                · obtain ⟨a1, a2⟩ := HIN.out.2.2.2.at_ D hD
                  have hne : ∀ {E : Nat} {cs : Array Value} {ty : TypeId}, W'.heap[E]? = some (.cells cs ty (0, 0)) → D ≠ E := fun h e => by rw [e, h] at a2; cases a2
                  exact ⟨a1, st3 D _ (hne HIN.out.1.g) (hne HIN.out.2.1) (hne HIN.out.1.m) (blk_drewN a2 q2)⟩
    · have hd : decide ((i : Int) < (P.length : Int)) = false := by simp; omega
      have hq_ := eq_false hlt
      have hie : i = P.length := by have := HI.out.1; omega
      have HIE := Aside0.mk hie
      have cm := hc1 HI.out.2.2.1.m
      have HTW := Aside0.mk (HT.out.below HI.out.2.2.1.bn_)
      have hv1 : childV P (P.length : Int) 109 = (0, false) := if_neg (by omega)
      have hv2 : childV P (-1) 109 = (0, false) := if_neg (by omega)
      have HV := Aside0.mk (And.intro hv1 hv2)
      have hmn : many = (P.length : Int) - 1 := by have h := HI.out.2.2.2.2.2; rw [hie] at h; exact h.done HTW.out.good
      have hws : wrap64 ((P.length : Int) - 1) = (P.length : Int) - 1 := by have := HP.out; rw [w64s (by omega) (by omega)]
      have HB := Aside0.mk (Below.refl w.heap.size w)
      have cr := blk_frozen HI.out.2.2.1.r 0
      have cg := hc1 HI.out.2.2.1.r
      subst hmn
      clear hie hv1 hv2 hlt
      go_wp2_with (first
        | (go_at_call 19; (with_reducible refine (child_calls HTW.out (P.length : Int) 109 (by decide) (by decide)).mono ?_); rintro e w' ⟨rfl, ⟨q1, rfl⟩⟩; rw [HV.out.1])
        | (go_at_call 19; (with_reducible refine (child_calls (HTW.out.below (pw_below_drewN (Below.refl _ _) _)) (-1) 109 (by decide) (by decide)).mono ?_); rintro e w' ⟨rfl, ⟨q2, rfl⟩⟩; rw [HV.out.2]))
      have hR7 : ((w.drewN (q1 + q2)).setCell ⟨gr, 0, none⟩ (.bool true)).heap[gr]? = some (.cells #[.bool true] 4 (0, 0)) := p1_0 (blk_drewN HI.out.2.2.1.r (q1 + q2))
      have hM7 : Marked W ds ((w.drewN (q1 + q2)).setCell ⟨gr, 0, none⟩ (.bool true)) := ⟨HI.out.2.2.2.2.1.nd, fun D hD => by
        obtain ⟨a1, a2⟩ := HI.out.2.2.2.2.1.at_ D hD
        exact ⟨a1, (Below.heap_setCell _ _ _ _ (fun e => by rw [e, HI.out.2.2.1.r] at a2; cases a2)).trans (blk_drewN a2 _)⟩⟩
      have hB7 : Below W.heap.size W ((w.drewN (q1 + q2)).setCell ⟨gr, 0, none⟩ (.bool true)) := (below_step HI.out.2.2.1.b (pw_below_drewN (Below.refl _ _) (q1 + q2))).setCell (p := ⟨gr, 0, none⟩) Gr.out _
      refine leaves_marks (b := true) (fun w' h1 h2 => ?_) ds _ hM7 hR7 hB7
      have h3 := hc1 h1
      refine ⟨.bool true, ?_, rfl, h2⟩
      simp [results, Try.f6, go_sem, h3]
end Go.Proofs.Ytgdipibmaaehcaa.Tr
