/- The law's each: a loop over lex.Each that collects. Its conditions: the listed variables as they were laid; a text of at most 1000 bytes. -/
import Derived.Maps.OwnIn
import Derived.Test.YtimkhjbnkcgekaaDoorH8
namespace Go.Proofs.YtimkhjbnkcgekaaDoor
open Go Go.RowKit Go.Shelf Flat Go.Proofs.YtimkhjbnkcgekaaDoor.Lx Go.Proofs.YtimkhjbnkcgekaaDoor.Sq Go.Proofs.YtimkhjbnkcgekaaDoor.PB Go.Proofs.YtimkhjbnkcgekaaDoor.PC Go.Proofs.YtimkhjbnkcgekaaDoorW.PrintWords Go.Proofs.YtimkhjbnkcgekaaDoorW.PrintLast Go.Proofs.YtimkhjbnkcgekaaDoorW.PrintMore
attribute [local go_sem] Oper.semAt_some
set_option linter.unusedVariables false
set_option linter.unusedSimpArgs false
theorem row_kept {X Y : World} {g : Nat} {cs : Array Value} {t : TypeId} {fr : Nat × Nat} {row : Option Nat} (h : X.heap[g]? = some (.cells cs t fr)) (hg : X.grownBy Y row) (hr : ∀ r, row = some r → ∃ o : Obj, X.heap[r]? = some o ∧ o.isCells = false) : Y.heap[g]? = some (.cells cs t fr) :=
  (hg.block g (blk_lt h) (fun e1 => by
    obtain ⟨o, ho, hc⟩ := hr g e1.symm
    rw [h] at ho; cases ho; cases hc)).trans h
/-- A row of tokens under a step that turns what is no cells. -/
theorem R_kept {X Y : World} {base : Nat} {ok : Nat → Prop} {v : Value} {xs : List S31} {row : Option Nat} (h : Kd.R k31 31 X base ok v xs) (hg : X.grownBy Y row) (hr : ∀ r, row = some r → ∃ o : Obj, X.heap[r]? = some o ∧ o.isCells = false) : Kd.R k31 31 Y base ok v xs :=
  Kd.R_mono (Kd.R_grown (Kd.R_bound h) hg (fun k hk e => by
    obtain ⟨_, _, _, q, _, cells, hc⟩ := hk
    obtain ⟨o, ho, hn⟩ := hr k e.symm
    rw [hc] at ho
    cases ho
    cases hn)) (fun _ hk => hk.1)
set_option maxRecDepth 100000 in
theorem func_nil (lb : Array Value) (W : World) : (binOp BinOp.eql 33 (Value.func (Fn.func 23) #[] lb) Value.nilFunc).run Tryd.prog W = .ok (.bool false) W := by
  have h := Tryd.underlying33
  first
    | rfl
    | kernel_rfl
    | (simp [binOp, Op.equal, Op.equalIn, run_underlying h]; done)
/-- append of a token to a row of one's own, inside a fence. -/
theorem tok_append {F : Fence} {nF : Nat} {ops : Array Oper} {rest : List Oper} {o : Oper} {a : Act} {Q : Exit → Act → World → Prop} (W : World) (base : Nat) (hgd : o.guard = none) (s x : Operand)
    (ho : o.op = .call { callee := .builtin .append, args := #[s, x], argTypes := #[28, 28] }) (v : Value) (xs : List S31) (y : S31) (hs : a.eval s = v) (hx : a.eval x = .slice (some ⟨W.heap.size, 0, none⟩) 1 1)
    (HO : Kd.R k31 31 W base (fun _ => True) v xs) (hbase : base ≤ W.heap.size) (hl : xs.length ≤ 100000)
    (h : ∀ v1 w1, Kd.R k31 31 w1 base (fun _ => True) v1 (xs ++ [y]) → Below base W w1 → (W.alloc (.cells (tokC y) 31)).grownBy w1 v.ownBlock → wpListIn F nF Tryd.prog ops Q rest (a.put o.dst v1) w1) :
    wpListIn F nF Tryd.prog ops Q (o :: rest) a (W.alloc (.cells (tokC y) 31)) := by
  obtain ⟨i0, hi, hzz⟩ := Option.map_eq_some_iff.1 info31
  simp only [Prod.mk.injEq] at hzz
  obtain ⟨hz0, hz1, hz2⟩ := hzz
  obtain ⟨h0, inner, hown, hr⟩ := HO
  have hk : k31.M W base (fun _ => False) y (tokC y).toList := k31_mkM _ _ _ y
  refine wpListIn_append_own_at (W.alloc (.cells (tokC y) 31)) hgd s x 28 ho base 31 i0 _ 4 40 Tryd.underlying28 hi hz0 hz1 hz2 rfl (by decide) v xs.length inner hs (hown.alloc _) ⟨W.heap.size, 0, none⟩ 1 1 (tokC y).toList hx rfl
    (by simpa using World.news_of_block (cs := tokC y) (t := 31) (fr := (0, 0)) (heap_alloc_new W (.cells (tokC y) 31))) (Kd.K_one k31 (Kd.K_of_M k31 hk)) (by simp only [maxLen]; omega) (by omega) (by simp; omega) ?_
  intro v1 w1 hown1 hg _ hat
  refine h v1 w1 ?_ (((Below.refl base W).alloc hbase _).grown hg (by simp; omega) (own_base hown)) hg
  refine Kd.R_appended (fun k hk => trivial) hr hk (fun k hk => hk.elim) (fun _ _ => trivial) hown1 (World.grownBy.trans (World.grownBy_alloc W _ _) hg) ?_
  rcases hat with hat | hat
  · exact .inl hat
  · exact .inr ⟨_, hat, by simp⟩
theorem grown_keeps {W w1 : World} {base : Nat} {ok : Nat → Prop} {v : Value} {xs : List S31} {o : Obj} (hR : Kd.R k31 31 W base ok v xs) (hg : (W.alloc o).grownBy w1 v.ownBlock) : KeepsOthers W w1 :=
  (KeepsOthers.alloc W o).trans (KeepsOthers.of_grownBy hg fun j o' ej hj => by
    obtain ⟨_, _, _, q, _, cells, hc⟩ := (Kd.R_bound hR).1 j ej
    rw [blk_alloc hc _] at hj
    cases hj
    rfl)
/-- What the collecting loop keeps: the row in its box, the two boxes that the closure reads. -/
structure E1 (gl gs gn base : Nat) (m : Int) (s : ByteArray) (pre : List S31) (W : World) : Prop where
  l : ∃ v, W.heap[gl]? = some (.cells #[v] 28 (0, 0)) ∧ Kd.R k31 31 W base (fun _ => True) v pre
  s : W.heap[gs]? = some (.cells #[.string s] 9 (0, 0))
  n : W.heap[gn]? = some (.cells #[.int .i64 m] 3 (0, 0))
theorem E1.kept {gl gs gn base : Nat} {m : Int} {s : ByteArray} {pre : List S31} {X Y : World} {row : Option Nat} (h : E1 gl gs gn base m s pre X) (hg : X.grownBy Y row) (hr : ∀ r, row = some r → ∃ o : Obj, X.heap[r]? = some o ∧ o.isCells = false) : E1 gl gs gn base m s pre Y := by
  obtain ⟨⟨v, h1, h2⟩, h3, h4⟩ := h
  exact ⟨⟨v, row_kept h1 hg hr, R_kept h2 hg hr⟩, row_kept h3 hg hr, row_kept h4 hg hr⟩
theorem own_E1 (gl gs gn base : Nat) (m : Int) (s : ByteArray) : Own (fun (pre : List S31) W => E1 gl gs gn base m s pre W) := fun s _ Y row hs hg hr => E1.kept hs hg hr
theorem Kp2_refl (n a b : Nat) (W : World) : Kp2 n a b W W := ⟨Below.refl _ _, rfl, rfl⟩
theorem Kp2_below {n a b : Nat} {W W' : World} (h : Below W.heap.size W W') (hn : n ≤ W.heap.size) (ha : a < W.heap.size) (hb : b < W.heap.size) : Kp2 n a b W W' := ⟨h.mono hn, h.block a ha, h.block b hb⟩
theorem Kp2_b {n a b : Nat} {w : World} (hn : n ≤ w.heap.size) (ha : a < w.heap.size) (hb : b < w.heap.size) : ∀ (W : World) (l : Nat) (o o' : Obj), w.heap.size ≤ l → W.heap[l]? = some o → o.isCells = false → o.isWalk = false → Kp2 n a b W (W.putObj l o') :=
  fun W l o o' hl h0 h1 h2 => ⟨belowK_b (w := w) hn W l o o' hl h0 h1 h2, World.putObj_heap_other (by omega), World.putObj_heap_other (by omega)⟩
def zt : Value := .string ⟨#[]⟩
def drachmlaw08_each.f (a0 : Int) (a1 : ByteArray) : Option (List S31) := if a1.size ≤ 1000 then (style_Of.f a0).bind fun x => some (all x (bytesOf a1)) else none
set_option maxHeartbeats 8000000 in
set_option maxRecDepth 100000 in
theorem each_calls (m : Int) (s : ByteArray) (x : Sty) (hx : style_Of.f m = some x) (hs : s.size ≤ 1000) (w : World) (hG : Glob [0, 2] w) :
    Calls Tryd.prog 14 #[.int .i64 m, .string s] w fun e w' => ∃ v0_ : Value, e = .returned v0_ ∧ Kd.R k31 31 w' w.heap.size (fun _ => True) v0_ (all x (bytesOf s)) ∧ Below w.heap.size w w' := by
  have HG := Aside0.mk hG
  have hfn := func_nil
  have hLL := toks_len (x := x) (bytesOf s).length 0 (bytesOf s)
  change (all x (bytesOf s)).length ≤ _ at hLL
  rw [bytesOf_length] at hLL
  have HLL := Aside0.mk (show (all x (bytesOf s)).length ≤ 1000 by omega)
  have HSEQ := Aside0.mk (fun (Bs Bn : Nat) (W : World) => each_stops 8 (by omega) Bs Bn w hG m s x hx hs W)
  obtain ⟨L, hL⟩ : ∃ L, all x (bytesOf s) = L := ⟨_, rfl⟩
  rw [hL] at HLL ⊢
  simp only [hL] at HSEQ
  clear hG hx hLL hL
  refine (callsIn_wide (n := 9)).1 ?_
  refine callsIn_of_wp_marks Tryd.func14 rfl trivial ?_ rfl
  refine (wpIn_wide (n := 9)).2 ?_
  simp only [Tryd.ntmps14, List.size_toArray, List.length_cons, List.length_nil, Nat.reduceAdd, Nat.reduceSub, Array.replicate_succ, Array.replicate_zero, List.push_toArray, List.append_toArray, List.nil_append, List.cons_append]
  go_wp2_with (first
    | ((with_reducible refine gate_dst (N := 5) rfl ?_); refine box_event ?hg (N := 5) ?hd (cs := #[.slice none 0 0]) (t := 28) ?hr ?_; (case hd => rfl); (case hg => rfl); (case hr => first | (go_simp; done) | (go_simp; rfl)); intro gl hg_ wl_ hbox hb; have Gl := Aside0.mk (bsz (bl (Below.refl _ _)) hg_ : w.heap.size ≤ gl); have HB := Aside0.mk hb; have Bl := Aside0.mk hbox; clear hbox hb hg_)
    | (go_at_call 15; (with_reducible refine (each_new m s _).mono ?_); rintro e w_ ⟨gn, gs, rfl, hgn, hgs, hne, hbn, hbs, hb⟩; have Nsl := Aside0.mk (Nat.ne_of_gt (Nat.lt_of_lt_of_le (blk_lt (kp Bl.out)) hgs)); have Nnl := Aside0.mk (Nat.ne_of_gt (Nat.lt_of_lt_of_le (blk_lt (kp Bl.out)) hgn)); replace Bl := Aside0.mk (blk_below (kp Bl.out) hb); replace HB := Aside0.mk (below_step (bl HB.out) hb); have Bn := Aside0.mk hbn; have Bs := Aside0.mk hbs; clear hbn hbs hb hgn hgs hne))
  have hz1 := below_size HB.out
  have hltl := blk_lt Bl.out
  have hlts := blk_lt Bs.out
  have hltn := blk_lt Bn.out
  have HL := Aside0.mk (show E1 gl gs gn w.heap.size m s [] w_ from ⟨⟨_, Bl.out, Kd.R_nil _ _ _ _ _⟩, Bs.out, Bn.out⟩)
  refine (wpIn_wide (n := 9)).1 ?_
  refine wpIn_rangeFunc_ownH rfl (by omega) (gf := 23) (lb := #[.pointer (some ⟨gs, 0, none⟩), .pointer (some ⟨gn, 0, none⟩)]) rfl trivial (enters_of Tryd.func23 (by kernel_rfl) rfl)
    (HSEQ.out gs gn w_ HB.out Bs.out Bn.out) Kp2_t (Kp2_b hz1 hlts hltn) (Below.refl _ _) (fun _ => rfl)
    (fun pre W => E1 gl gs gn w.heap.size m s pre W ∧ Below w.heap.size w W ∧ KeepsFrom w_.heap.size w_ W)
    (fun _ _ _ => False)
    (OwnFrom.and (Own.from (own_E1 gl gs gn w.heap.size m s) _) (OwnFrom.and (ownFrom_below (Nat.le_refl _) hz1) (ownFrom_keepsFrom (Nat.le_refl _))))
    (fun cc => fun _ _ _ _ hs _ _ => hs)
    ⟨HL.out, HB.out, KeepsFrom.refl _ _⟩
    (fun y a' W => ∃ gt, a' = { tmps := #[.int .i64 m, .string s, undef, undef, .slice none 0 0, .pointer (some ⟨gl, 0, none⟩), .func (.func 23) #[] #[.pointer (some ⟨gs, 0, none⟩), .pointer (some ⟨gn, 0, none⟩)], .pointer (some ⟨gt, 0, none⟩), .int .i64 m, .string s, .func (.func 23) #[] #[.pointer (some ⟨gs, 0, none⟩), .pointer (some ⟨gn, 0, none⟩)], .func (.func 23) #[] #[.pointer (some ⟨gs, 0, none⟩), .pointer (some ⟨gn, 0, none⟩)], .bool false, .func (.func 23) #[] #[.pointer (some ⟨gs, 0, none⟩), .pointer (some ⟨gn, 0, none⟩)], .agg (tokC y), undef, undef, undef, undef, undef], defers := [] } ∧ w_.heap.size ≤ gt ∧ W.heap[gt]? = some (.cells (tokC y) 31 (0, 0)))
    (fun y a' u X Y row hs hg hr => by
      obtain ⟨gt, h1, h2, h3⟩ := hs
      exact ⟨gt, h1, h2, row_kept h3 hg (fun r e => (hr r e).2)⟩) ?assign ?body ?done ?stop
  case assign =>
    rintro l pre ⟨y0, y1, y2, y3⟩ W K ⟨hI, hB, hI1⟩ hK
    dsimp only [tokC]
    gi_wp2
    have hbw : Below W.heap.size W (W.alloc (.cells #[.int .i64 y0, .int .i64 y1, .string y2, .int .i64 y3] 31)) := below_alloc (Below.refl _ _) _
    have hsz := hB.size
    refine hK _ _ ((KeepsOthers.alloc W _).from _) (Kp2_below hbw hsz (blk_lt hI.s) (blk_lt hI.n)) ⟨E1.kept hI (below_grown hbw) (fun r e => by cases e), below_step hB hbw, hI1.trans ((KeepsOthers.alloc W _).from _)⟩ ⟨W.heap.size, rfl, ?_, heap_alloc_new _ _⟩
    exact hI1.size
  case body =>
    rintro l pre y a' W hlW hrec ⟨hI, hB, hI1⟩ ⟨gt, rfl, hgt, htok⟩ hlen
    obtain ⟨y0, y1, y2, y3⟩ := y
    obtain ⟨⟨v, hl, hR⟩, hs, hn⟩ := hI
    have hNE : gt ≠ gl := by omega
    have HI := Aside0.mk (And.intro hl (And.intro hR (And.intro hs (And.intro hn (And.intro hB (And.intro hgt hI1))))))
    have HTk := Aside0.mk htok
    have HNE := Aside0.mk hNE
    have hlp : pre.length ≤ 100000 := by have := HLL.out; omega
    have cl_ := hc1 hl
    have fl_ := blk_frozen hl 0
    obtain ⟨t0_, t1_, t2_, t3_⟩ := hc4 (show W.heap[gt]? = some (.cells #[.int .i64 y0, .int .i64 y1, .string y2, .int .i64 y3] 31 (0, 0)) from htok)
    clear hl hR hs hn hB hgt htok hNE hlW hrec hI1
    gi_wp2_with (gi_at_builtin; refine tok_append W w.heap.size rfl (.tmp 15) (.tmp 17) rfl v pre ⟨y0, y1, y2, y3⟩ rfl rfl HI.out.2.1 HI.out.2.2.2.2.1.size hlp ?_; intro v1 w1 ho hb hg; obtain ⟨A1, c1, hv1⟩ := Kd.R_slice ho; obtain ⟨q1, hq1⟩ : ∃ q, (pre ++ [(⟨y0, y1, y2, y3⟩ : S31)]).length = q := ⟨_, rfl⟩; rw [hq1] at hv1; subst hv1; have hl1 := blk_grown (blk_alloc HI.out.1 _) hg (Kd.R_ne HI.out.2.1 HI.out.1 (by decide)); have cl1_ := hc1 hl1; have fl1_ := blk_frozen hl1 0)
    have hks := grown_keeps HI.out.2.1 hg
    have hs1 := blk_grown (blk_alloc HI.out.2.2.1 _) hg (Kd.R_ne HI.out.2.1 HI.out.2.2.1 (by decide))
    have hn1 := blk_grown (blk_alloc HI.out.2.2.2.1 _) hg (Kd.R_ne HI.out.2.1 HI.out.2.2.2.1 (by decide))
    have hkf := (hks.trans (KeepsOthers.setCell w1 ⟨gl, 0, none⟩ (.slice A1 q1 c1))).from w_.heap.size
    have hs2 := kp (v := w1.setCell ⟨gl, 0, none⟩ (.slice A1 q1 c1)) hs1
    have hn2 := kp (v := w1.setCell ⟨gl, 0, none⟩ (.slice A1 q1 c1)) hn1
    have hb2 := hb.setCell (p := ⟨gl, 0, none⟩) Gl.out (.slice A1 q1 c1)
    exact ⟨hkf, ⟨hb2, hs2.trans HI.out.2.2.1.symm, hn2.trans HI.out.2.2.2.1.symm⟩, ⟨⟨_, p1_0 hl1, Kd.R_set ho hl1 (by decide) 0 _⟩, hs2, hn2⟩, HI.out.2.2.2.2.1.trans hb2, HI.out.2.2.2.2.2.2.trans hkf⟩
  case done =>
    rintro D ys W hD hS ⟨⟨⟨v, hl, hR⟩, hs, hn⟩, hB, _⟩ hK
    replace hS := hS.symm
    subst hS
    have cl_ := hc1 hl
    have HI := Aside0.mk (And.intro hR (And.intro hB hK))
    have HD := Aside0.mk (Nat.le_trans hz1 hD)
    clear hl hR hs hn hB hK hD HL
    go_wp2
    refine ⟨by simp, .inl ⟨_, _, rfl, run_takeDeferred HI.out.2.2, ?_⟩⟩
    refine ⟨v, ?_, v, rfl, R_kept HI.out.1 (grownBy_putObj' W D (.deferred none)) (fun r e => by cases e; exact ⟨_, HI.out.2.2, rfl⟩), HI.out.2.1.trans (belowK_b (w := w) (Nat.le_refl _) _ D _ (.deferred none) HD.out HI.out.2.2 rfl rfl)⟩
    simp [results, Tryd.f14, go_sem]
  case stop =>
    rintro D c pre W _ _ h _
    exact h.elim
theorem drachmlaw08_each.calls (a0 : Int) (a1 : ByteArray) (r1 : List S31) (w : World) (hG : Glob [0, 2] w) (h : drachmlaw08_each.f a0 a1 = some r1) :
    Calls Tryd.prog 14 #[.int .i64 a0, .string a1] w fun e w' => ∃ v0_ : Value, e = .returned v0_ ∧ Kd.R k31 31 w' w.heap.size (fun _ => True) v0_ r1 ∧ Below w.heap.size w w' := by
  unfold drachmlaw08_each.f at h
  by_cases hs : a1.size ≤ 1000
  · rw [if_pos hs] at h
    obtain ⟨x, hx, h⟩ := Option.bind_eq_some_iff.mp h
    cases h
    exact each_calls a0 a1 x hx hs w hG
  · rw [if_neg hs] at h; cases h
end Go.Proofs.YtimkhjbnkcgekaaDoor
