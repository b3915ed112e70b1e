/- lex.Lex: a loop over lex.Each that collects. Its conditions: the listed variables as they were laid; a text of at most 1000 bytes. -/
import Derived.Maps.OwnIn
import Derived.Test.YtimkhjbnkcgekaaDoorH9
namespace Go.Proofs.YtimkhjbnkcgekaaDoor
open Go Go.RowKit Go.Shelf Flat Go.Proofs.YtimkhjbnkcgekaaDoor.Lx Go.Proofs.YtimkhjbnkcgekaaDoor.Sq Go.Proofs.YtimkhjbnkcgekaaDoor.PB Go.Proofs.YtimkhjbnkcgekaaDoor.PC Go.Proofs.YtimkhjbnkcgekaaDoorW.PrintWords Go.Proofs.YtimkhjbnkcgekaaDoorW.PrintLast Go.Proofs.YtimkhjbnkcgekaaDoorW.PrintMore
attribute [local go_sem] Oper.semAt_some
set_option linter.unusedVariables false
set_option linter.unusedSimpArgs false
/-- lex.size: a token's length in its text, as the machine reckons it. -/
def sizeW (y : S31) : Int := if y.f0 = 9 then wrap64 ((y.f2.size : Int) + 2) else (y.f2.size : Int)
def sumW (l : List S31) : Int := l.foldl (fun a y => wrap64 (a + sizeW y)) 0
theorem sumW_snoc (l : List S31) (y : S31) : sumW (l ++ [y]) = wrap64 (sumW l + sizeW y) := by unfold sumW; rw [List.foldl_append]; rfl
theorem sumW_from : ∀ (l : List S31) (a : Nat), a + sumT l ≤ 1000 → l.foldl (fun a y => wrap64 (a + sizeW y)) (a : Int) = ((a + sumT l : Nat) : Int)
  | [], a, _ => by simp [sumT]
  | y :: l, a, h => by
    rw [sumT] at h ⊢
    have hy : sizeW y = (sizeT y : Int) := by
      unfold sizeT at h
      unfold sizeW sizeT
      split
      · rename_i h9
        rw [if_pos h9] at h
        rw [w64 (by omega) (by omega)]; omega
      · rfl
    rw [List.foldl_cons, hy, w64 (by omega) (by omega)]
    have ih := sumW_from l (a + sizeT y) (by omega)
    rw [show ((a + sizeT y : Nat) : Int) = (a : Int) + (sizeT y : Int) by omega] at ih
    rw [ih]
    omega
theorem sumW_eq (l : List S31) (h : sumT l ≤ 1000) : sumW l = (sumT l : Int) := by
  have := sumW_from l 0 (by omega)
  rw [Nat.zero_add] at this
  exact this
theorem size_calls (y : S31) (w : World) : Calls Tryd.prog 26 #[.agg (tokC y)] w fun e w' => e = .returned (.int .i64 (sizeW y)) ∧ Below w.heap.size w w' := by
  obtain ⟨y0, y1, y2, y3⟩ := y
  have hu31 := Tryd.underlying31
  dsimp only [tokC]
  unfold sizeW
  simp only
  by_cases h9 : y0 = 9
  · subst h9
    rw [if_pos rfl]
    obtain ⟨q, hq⟩ : ∃ q, wrap64 ((y2.size : Int) + 2) = q := ⟨_, rfl⟩
    have hq2 : IntKind.i64.wrap ((y2.size : Int) + 2) = q := (i64_w _).trans hq
    rw [hq]
    go_enter Tryd.func26, Tryd.ntmps26
    go_wp2
    all_goals go_ret
    all_goals exact ⟨rfl, below_alloc (Below.refl _ _) _⟩
  · rw [if_neg h9]
    have b9 : (y0 == 9) = false := beq_eq_false_iff_ne.2 h9
    go_enter Tryd.func26, Tryd.ntmps26
    go_wp2
    all_goals go_ret
    all_goals exact ⟨by first | rfl | (simp; done), below_alloc (Below.refl _ _) _⟩
def lexP (x : Sty) (s : ByteArray) : List S31 × Int × Int :=
  if x.2.2.2.2.2.2 = false then ([], 0, 1) else if 255 < s.size then ([], 0, 12) else if endOf x (bytesOf s) < s.size then ([], (endOf x (bytesOf s) : Int), 14) else (all x (bytesOf s), (endOf x (bytesOf s) : Int), 0)
/-- What lex.Lex's loop keeps. -/
structure E2 (gl ga gs gn base : Nat) (m : Int) (s : ByteArray) (pre : List S31) (W : World) : Prop where
  e : E1 gl gs gn base m s pre W
  a : W.heap[ga]? = some (.cells #[.int .i64 (sumW pre)] 3 (0, 0))
theorem E2.kept {gl ga gs gn base : Nat} {m : Int} {s : ByteArray} {pre : List S31} {X Y : World} {row : Option Nat} (h : E2 gl ga gs gn base m s pre X) (hg : X.grownBy Y row) (hr : ∀ r, row = some r → ∃ o : Obj, X.heap[r]? = some o ∧ o.isCells = false) : E2 gl ga gs gn base m s pre Y := ⟨h.e.kept hg hr, row_kept h.a hg hr⟩
theorem own_E2 (gl ga gs gn base : Nat) (m : Int) (s : ByteArray) : Own (fun (pre : List S31) W => E2 gl ga gs gn base m s pre W) := fun s _ Y row hs hg hr => E2.kept hs hg hr
theorem mem_size {x : Sty} : ∀ (d a : Nat) (B : List Int) (y : S31), y ∈ (toks x d a B).1 → y.f2.size ≤ B.length := by
  intro d
  induction d with
  | zero => intro a B y h; simp [toks] at h
  | succ d ih =>
    intro a B y h
    cases hn : nextL x B with
    | none => rw [toks_none hn] at h; simp at h
    | some t =>
      rw [toks_some hn] at h
      obtain ⟨h1, h2⟩ := next_pos hn
      rcases List.mem_cons.1 h with rfl | h
      · have hm := size_mk hn a
        unfold sizeT at hm
        split at hm <;> omega
      · have := ih _ _ y h
        rw [List.length_drop] at this
        omega
set_option maxHeartbeats 8000000 in
set_option maxRecDepth 100000 in
theorem lex_calls (m : Int) (s : ByteArray) (x : Sty) (hx : style_Of.f m = some x) (hs : s.size ≤ 1000) (w : World) (hG : Glob [0, 2] w) :
    Calls Tryd.prog 18 #[.int .i64 m, .string s] w fun e w' => ∃ v0_ : Value, e = .returned (.tuple #[v0_, .int .i64 (lexP x s).2.1, .int .i64 (lexP x s).2.2]) ∧ Kd.R k31 31 w' w.heap.size (fun _ => True) v0_ (lexP x s).1 ∧ Below w.heap.size w w' := by
  obtain ⟨x1, x2, x3, x4, x5, x6, x7⟩ := x
  have HG := Aside0.mk hG
  have HX := Aside0.mk hx
  cases x7 with
  | false =>
    rw [show lexP (x1, x2, x3, x4, x5, x6, false) s = ([], 0, 1) from rfl]
    clear hx hG
    have HB := Aside0.mk (Below.refl w.heap.size w)
    go_enter Tryd.func18, Tryd.ntmps18
    go_wp2_with (first | (go_at_call 25; (with_reducible refine (style_Of.calls m x1 x2 x3 x4 x5 x6 false _ (Glob.use HG.out (by decide) (bl HB.out)) HX.out).mono ?_); rintro e w_ ⟨rfl, hb⟩; replace HB := sb HB hb; clear hb) | ((with_reducible refine gate_dst (N := 7) rfl ?_); refine box_event ?hg (N := 7) ?hd (cs := #[.bool false, .int .u8 0, .int .u8 0, .int .u8 0, .int .u8 0, .int .u8 0]) (t := 38) ?hr ?_; (case hd => rfl); (case hg => rfl); (case hr => first | (go_simp; done) | (go_simp; rfl)); intro gx hg w2 hbox hb; have GX := Aside0.mk (bsz (bl HB.out) hg : w.heap.size ≤ gx); replace HB := sb HB hb; have x0_ : w2.cell? ⟨gx, 0, none⟩ = some (.bool false) := (blk_cell hbox 0).trans rfl; have y0_ := blk_frozen hbox 0; have x1_ : w2.cell? ⟨gx, 1, none⟩ = some (.int .u8 0) := (blk_cell hbox 1).trans rfl; have y1_ := blk_frozen hbox 1; have x2_ : w2.cell? ⟨gx, 2, none⟩ = some (.int .u8 0) := (blk_cell hbox 2).trans rfl; have y2_ := blk_frozen hbox 2; have x3_ : w2.cell? ⟨gx, 3, none⟩ = some (.int .u8 0) := (blk_cell hbox 3).trans rfl; have y3_ := blk_frozen hbox 3; have x4_ : w2.cell? ⟨gx, 4, none⟩ = some (.int .u8 0) := (blk_cell hbox 4).trans rfl; have y4_ := blk_frozen hbox 4; have x5_ : w2.cell? ⟨gx, 5, none⟩ = some (.int .u8 0) := (blk_cell hbox 5).trans rfl; have y5_ := blk_frozen hbox 5; clear hbox hb hg))
    exact bodyPost_ret (v := .tuple #[.slice none 0 0, .int .i64 0, .int .i64 1]) (by simp [results, Tryd.f18, go_sem]) rfl ⟨_, rfl, Kd.R_nil _ _ _ _ _, bl HB.out⟩
  | true =>
    by_cases h255 : 255 < s.size
    · rw [show lexP (x1, x2, x3, x4, x5, x6, true) s = ([], 0, 12) from by unfold lexP; rw [if_neg (by simp), if_pos h255]]
      have hd : decide ((s.size : Int) > 255) = true := decide_eq_true (by omega)
      have hd' : decide (255 < (s.size : Int)) = true := decide_eq_true (by omega)
      clear hx hG
      have HB := Aside0.mk (Below.refl w.heap.size w)
      go_enter Tryd.func18, Tryd.ntmps18
      go_wp2_with (first | (go_at_call 25; (with_reducible refine (style_Of.calls m x1 x2 x3 x4 x5 x6 true _ (Glob.use HG.out (by decide) (bl HB.out)) HX.out).mono ?_); rintro e w_ ⟨rfl, hb⟩; replace HB := sb HB hb; clear hb) | ((with_reducible refine gate_dst (N := 7) rfl ?_); refine box_event ?hg (N := 7) ?hd (cs := #[.bool false, .int .u8 0, .int .u8 0, .int .u8 0, .int .u8 0, .int .u8 0]) (t := 38) ?hr ?_; (case hd => rfl); (case hg => rfl); (case hr => first | (go_simp; done) | (go_simp; rfl)); intro gx hg w2 hbox hb; have GX := Aside0.mk (bsz (bl HB.out) hg : w.heap.size ≤ gx); replace HB := sb HB hb; have x0_ : w2.cell? ⟨gx, 0, none⟩ = some (.bool false) := (blk_cell hbox 0).trans rfl; have y0_ := blk_frozen hbox 0; have x1_ : w2.cell? ⟨gx, 1, none⟩ = some (.int .u8 0) := (blk_cell hbox 1).trans rfl; have y1_ := blk_frozen hbox 1; have x2_ : w2.cell? ⟨gx, 2, none⟩ = some (.int .u8 0) := (blk_cell hbox 2).trans rfl; have y2_ := blk_frozen hbox 2; have x3_ : w2.cell? ⟨gx, 3, none⟩ = some (.int .u8 0) := (blk_cell hbox 3).trans rfl; have y3_ := blk_frozen hbox 3; have x4_ : w2.cell? ⟨gx, 4, none⟩ = some (.int .u8 0) := (blk_cell hbox 4).trans rfl; have y4_ := blk_frozen hbox 4; have x5_ : w2.cell? ⟨gx, 5, none⟩ = some (.int .u8 0) := (blk_cell hbox 5).trans rfl; have y5_ := blk_frozen hbox 5; clear hbox hb hg))
      exact bodyPost_ret (v := .tuple #[.slice none 0 0, .int .i64 0, .int .i64 12]) (by simp [results, Tryd.f18, go_sem]) rfl ⟨_, rfl, Kd.R_nil _ _ _ _ _, bl HB.out⟩
    · have hd : decide ((s.size : Int) > 255) = false := decide_eq_false (by omega)
      have hd' : decide (255 < (s.size : Int)) = false := decide_eq_false (by omega)
      have hP : lexP (x1, x2, x3, x4, x5, x6, true) s = if endOf (x1, x2, x3, x4, x5, x6, true) (bytesOf s) < s.size then ([], (endOf (x1, x2, x3, x4, x5, x6, true) (bytesOf s) : Int), 14) else (all (x1, x2, x3, x4, x5, x6, true) (bytesOf s), (endOf (x1, x2, x3, x4, x5, x6, true) (bytesOf s) : Int), 0) := by
        unfold lexP
        rw [if_neg (by simp), if_neg h255]
      have hsum := sum_all (x1, x2, x3, x4, x5, x6, true) (bytesOf s)
      rw [← hsum] at hP
      have hLL := toks_len (x := (x1, x2, x3, x4, x5, x6, true)) (bytesOf s).length 0 (bytesOf s)
      have hEN := toks_end (x := (x1, x2, x3, x4, x5, x6, true)) (bytesOf s).length 0 (bytesOf s)
      have hMS := mem_size (x := (x1, x2, x3, x4, x5, x6, true)) (bytesOf s).length 0 (bytesOf s)
      change (all (x1, x2, x3, x4, x5, x6, true) (bytesOf s)).length ≤ _ at hLL
      change _ ∧ endOf (x1, x2, x3, x4, x5, x6, true) (bytesOf s) ≤ _ at hEN
      change ∀ y, y ∈ all (x1, x2, x3, x4, x5, x6, true) (bytesOf s) → _ at hMS
      rw [← hsum] at hEN
      have HSEQ := Aside0.mk (fun (Bs Bn : Nat) (W : World) => each_stops 8 (by omega) Bs Bn w hG m s _ hx hs W)
      rw [bytesOf_length] at hLL hEN hMS
      obtain ⟨L, hL⟩ : ∃ L, all (x1, x2, x3, x4, x5, x6, true) (bytesOf s) = L := ⟨_, rfl⟩
      simp only [hL] at HSEQ hLL hEN hMS hP
      rw [hP]
      have HLL := Aside0.mk (show L.length ≤ 1000 ∧ sumT L ≤ 1000 ∧ (∀ y, y ∈ L → y.f2.size ≤ 1000) from ⟨by omega, by omega, fun y hy => by have := hMS y hy; omega⟩)
      clear hLL hEN hMS hP hL hsum hx hG h255
      have HB := Aside0.mk (Below.refl w.heap.size w)
      refine (callsIn_wide (n := 9)).1 ?_
      refine callsIn_of_wp_marks Tryd.func18 rfl trivial ?_ rfl
      refine (wpIn_wide (n := 9)).2 ?_
      simp only [Tryd.ntmps18, List.size_toArray, List.length_cons, List.length_nil, Nat.reduceAdd, Nat.reduceSub, Array.replicate_succ, Array.replicate_zero, List.push_toArray, List.append_toArray, List.nil_append, List.cons_append]
      go_upto_region 6 with (first | (go_at_call 25; (with_reducible refine (style_Of.calls m x1 x2 x3 x4 x5 x6 true _ (Glob.use HG.out (by decide) (bl HB.out)) HX.out).mono ?_); rintro e w_ ⟨rfl, hb⟩; replace HB := sb HB hb; clear hb) | ((with_reducible refine gate_dst (N := 7) rfl ?_); refine box_event ?hg (N := 7) ?hd (cs := #[.bool false, .int .u8 0, .int .u8 0, .int .u8 0, .int .u8 0, .int .u8 0]) (t := 38) ?hr ?_; (case hd => rfl); (case hg => rfl); (case hr => first | (go_simp; done) | (go_simp; rfl)); intro gx hg w2 hbox hb; have GX := Aside0.mk (bsz (bl HB.out) hg : w.heap.size ≤ gx); replace HB := sb HB hb; have x0_ : w2.cell? ⟨gx, 0, none⟩ = some (.bool false) := (blk_cell hbox 0).trans rfl; have y0_ := blk_frozen hbox 0; have x1_ : w2.cell? ⟨gx, 1, none⟩ = some (.int .u8 0) := (blk_cell hbox 1).trans rfl; have y1_ := blk_frozen hbox 1; have x2_ : w2.cell? ⟨gx, 2, none⟩ = some (.int .u8 0) := (blk_cell hbox 2).trans rfl; have y2_ := blk_frozen hbox 2; have x3_ : w2.cell? ⟨gx, 3, none⟩ = some (.int .u8 0) := (blk_cell hbox 3).trans rfl; have y3_ := blk_frozen hbox 3; have x4_ : w2.cell? ⟨gx, 4, none⟩ = some (.int .u8 0) := (blk_cell hbox 4).trans rfl; have y4_ := blk_frozen hbox 4; have x5_ : w2.cell? ⟨gx, 5, none⟩ = some (.int .u8 0) := (blk_cell hbox 5).trans rfl; have y5_ := blk_frozen hbox 5; clear hbox hb hg))
      replace HB := Aside0.mk (show Below w.heap.size w (World.setCell (World.setCell (World.setCell (World.setCell (World.setCell (World.setCell w2 ⟨gx, 0, none⟩ (.bool x1)) ⟨gx, 1, none⟩ (.int .u8 x2)) ⟨gx, 2, none⟩ (.int .u8 x3)) ⟨gx, 3, none⟩ (.int .u8 x4)) ⟨gx, 4, none⟩ (.int .u8 x5)) ⟨gx, 5, none⟩ (.int .u8 x6)) from bl HB.out)
      clear x0_ x1_ x2_ x3_ x4_ x5_ y0_ y1_ y2_ y3_ y4_ y5_ GX
      generalize (World.setCell (World.setCell (World.setCell (World.setCell (World.setCell (World.setCell w2 ⟨gx, 0, none⟩ (.bool x1)) ⟨gx, 1, none⟩ (.int .u8 x2)) ⟨gx, 2, none⟩ (.int .u8 x3)) ⟨gx, 3, none⟩ (.int .u8 x4)) ⟨gx, 4, none⟩ (.int .u8 x5)) ⟨gx, 5, none⟩ (.int .u8 x6)) = W0 at HB ⊢
      go_upto_region 8 with (first
        | ((with_reducible refine gate_dst (N := 9) rfl ?_); refine box_event ?hg (N := 9) ?hd (cs := #[.slice none 0 0]) (t := 28) ?hr ?_; (case hd => rfl); (case hg => rfl); (case hr => first | (go_simp; done) | (go_simp; rfl)); intro gl hg_ wl_ hbox hb; have Gl := Aside0.mk (bsz (bl HB.out) hg_ : w.heap.size ≤ gl); replace HB := sb HB hb; have Bl := Aside0.mk hbox; clear hbox hb hg_)
        | ((with_reducible refine gate_dst (N := 10) rfl ?_); refine box_event ?hg (N := 10) ?hd (cs := #[.int .i64 0]) (t := 3) ?hr ?_; (case hd => rfl); (case hg => rfl); (case hr => first | (go_simp; done) | (go_simp; rfl)); intro ga hg_ wa_ hbox hb; have Ga := Aside0.mk (bsz (bl HB.out) hg_ : w.heap.size ≤ ga); have Nla := Aside0.mk (nlt (kp Bl.out) hg_ : gl ≠ ga); have Nal := Aside0.mk (ngt (kp Bl.out) hg_ : ga ≠ gl); replace Bl := Aside0.mk (blk_below (kp Bl.out) hb); replace HB := Aside0.mk (below_step (bl HB.out) hb); have Ba := Aside0.mk hbox; obtain ca0_ := hc1 Ba.out; have fa0_ := blk_frozen Ba.out 0; clear hbox hb hg_))
      replace Bl := Aside0.mk (show (World.setCell wa_ ⟨ga, 0, none⟩ (.int .i64 0)).heap[gl]? = _ from kp Bl.out)
      replace Ba := Aside0.mk (show (World.setCell wa_ ⟨ga, 0, none⟩ (.int .i64 0)).heap[ga]? = some (.cells #[.int .i64 0] 3 (0, 0)) from p1_0 Ba.out)
      replace HB := Aside0.mk (show Below w.heap.size w (World.setCell wa_ ⟨ga, 0, none⟩ (.int .i64 0)) from bl HB.out)
      generalize World.setCell wa_ ⟨ga, 0, none⟩ (.int .i64 0) = W1 at Bl Ba HB ⊢
      go_wp2_with (first | (go_at_call 15; (with_reducible refine (each_new m s _).mono ?_); rintro e w_ ⟨gn, gs, rfl, hgn, hgs, hne, hbn, hbs, hb⟩; have Nsa := Aside0.mk (Nat.ne_of_gt (Nat.lt_of_lt_of_le (blk_lt (kp Ba.out)) hgs)); have Nna := Aside0.mk (Nat.ne_of_gt (Nat.lt_of_lt_of_le (blk_lt (kp Ba.out)) hgn)); have Nsl := Aside0.mk (Nat.ne_of_gt (Nat.lt_of_lt_of_le (blk_lt (kp Bl.out)) hgs)); have Nnl := Aside0.mk (Nat.ne_of_gt (Nat.lt_of_lt_of_le (blk_lt (kp Bl.out)) hgn)); replace Bl := Aside0.mk (blk_below (kp Bl.out) hb); replace Ba := Aside0.mk (blk_below (kp Ba.out) hb); replace HB := Aside0.mk (below_step (bl HB.out) hb); have Bn := Aside0.mk hbn; have Bs := Aside0.mk hbs; clear hbn hbs hb hgn hgs hne))
      have hz1 := below_size HB.out
      have hltl := blk_lt Bl.out
      have hlta := blk_lt Ba.out
      have hlts := blk_lt Bs.out
      have hltn := blk_lt Bn.out
      have HL := Aside0.mk (show E2 gl ga gs gn w.heap.size m s [] w_ from ⟨⟨⟨_, Bl.out, Kd.R_nil _ _ _ _ _⟩, Bs.out, Bn.out⟩, Ba.out⟩)
      refine (wpIn_wide (n := 9)).1 ?_
      refine wpIn_rangeFunc_ownH rfl (by omega) (gf := 23) (lb := #[.pointer (some ⟨gs, 0, none⟩), .pointer (some ⟨gn, 0, none⟩)]) rfl trivial (enters_of Tryd.func23 (by kernel_rfl) rfl)
        (HSEQ.out gs gn w_ HB.out Bs.out Bn.out) Kp2_t (Kp2_b hz1 hlts hltn) (Below.refl _ _) (fun _ => rfl)
        (fun pre W => E2 gl ga gs gn w.heap.size m s pre W ∧ Below w.heap.size w W ∧ KeepsFrom w_.heap.size w_ W)
        (fun _ _ _ => False)
        (OwnFrom.and (Own.from (own_E2 gl ga gs gn w.heap.size m s) _) (OwnFrom.and (ownFrom_below (Nat.le_refl _) hz1) (ownFrom_keepsFrom (Nat.le_refl _))))
        (fun cc => fun _ _ _ _ hs _ _ => hs)
        ⟨HL.out, HB.out, KeepsFrom.refl _ _⟩
        (fun y a' W => ∃ gt v, a' = { tmps := #[.int .i64 m, .string s, undef, undef, .slice none 0 0, .int .i64 0, .int .i64 0, .pointer (some ⟨gx, 0, none⟩), .bool true, .pointer (some ⟨gl, 0, none⟩), .pointer (some ⟨ga, 0, none⟩), .pointer (some ⟨gt, 0, none⟩), .tuple #[.agg #[.bool x1, .int .u8 x2, .int .u8 x3, .int .u8 x4, .int .u8 x5, .int .u8 x6], .bool true], .int .i64 m, .tuple #[.agg #[.bool x1, .int .u8 x2, .int .u8 x3, .int .u8 x4, .int .u8 x5, .int .u8 x6], .bool true], .agg #[.bool x1, .int .u8 x2, .int .u8 x3, .int .u8 x4, .int .u8 x5, .int .u8 x6], .bool true, .bool false, .bool true, .bool false, .bool false, .string s, .int .i64 (s.size : Int), .bool false, .int .i64 m, .string s, .func (.func 23) #[] #[.pointer (some ⟨gs, 0, none⟩), .pointer (some ⟨gn, 0, none⟩)], .agg (tokC y), undef, undef, undef, undef, undef, undef, undef, undef, undef, undef, undef, undef, undef, undef, undef], defers := [] } ∧ w_.heap.size ≤ gt ∧ W.heap[gt]? = some (.cells (tokC y) 31 (0, 0)) ∧ W.heap[gl]? = some (.cells #[v] 28 (0, 0)) ∧ some gt ≠ v.ownBlock)
        (fun y a' u X Y row hs hg hr => by
          obtain ⟨gt, v, h1, h2, h3, h4, h5⟩ := hs
          exact ⟨gt, v, h1, h2, row_kept h3 hg (fun r e => (hr r e).2), row_kept h4 hg (fun r e => (hr r e).2), h5⟩) ?assign ?body ?done ?stop
      case assign =>
        rintro l pre ⟨y0, y1, y2, y3⟩ W K ⟨hI, hB, hI1⟩ hK
        dsimp only [tokC]
        gi_wp2
        have hbw : Below W.heap.size W (W.alloc (.cells #[.int .i64 y0, .int .i64 y1, .string y2, .int .i64 y3] 31)) := below_alloc (Below.refl _ _) _
        have hsz := hB.size
        obtain ⟨⟨⟨v, hl, hR⟩, hs1, hn1⟩, ha⟩ := hI
        refine hK _ _ ((KeepsOthers.alloc W _).from _) (Kp2_below hbw hsz (blk_lt hs1) (blk_lt hn1)) ⟨E2.kept ⟨⟨⟨v, hl, hR⟩, hs1, hn1⟩, ha⟩ (below_grown hbw) (fun r e => by cases e), below_step hB hbw, hI1.trans ((KeepsOthers.alloc W _).from _)⟩ ⟨W.heap.size, v, rfl, hI1.size, heap_alloc_new _ _, blk_alloc hl _, ?_⟩
        intro e
        have := ((Kd.R_bound hR).1 _ e.symm).2.2.1
        omega
      case body =>
        rintro l pre y a' W hlW hrec ⟨hI, hB, hI1⟩ ⟨gt, v', rfl, hgt, htok, hv', hgv⟩ hlen
        obtain ⟨⟨⟨v, hl, hR⟩, hs, hn⟩, ha⟩ := hI
        obtain rfl : v = v' := by rw [hl] at hv'; simpa using hv'
        obtain ⟨y0, y1, y2, y3⟩ := y
        have HI := Aside0.mk (And.intro hl (And.intro hR (And.intro hs (And.intro hn (And.intro hB (And.intro hgt (And.intro hI1 ha)))))))
        have HTk := Aside0.mk htok
        have HGV := Aside0.mk hgv
        have Ntl := Aside0.mk (show gt ≠ gl by omega)
        have Nta := Aside0.mk (show gt ≠ ga by omega)
        have Nat_ := Aside0.mk (show ga ≠ gt by omega)
        have GT := Aside0.mk (show w.heap.size ≤ gt by omega)
        have hlp : pre.length ≤ 100000 := by have := HLL.out.1; omega
        have HSN := Aside0.mk (sumW_snoc pre ⟨y0, y1, y2, y3⟩)
        have cl_ := hc1 hl
        have fl_ := blk_frozen hl 0
        obtain ⟨t0_, t1_, t2_, t3_⟩ := hc4 (show W.heap[gt]? = some (.cells #[.int .i64 y0, .int .i64 y1, .string y2, .int .i64 y3] 31 (0, 0)) from htok)
        clear hl hR hs hn hB hgt htok hlW hrec hI1 ha hv' hgv hz1 hltl hlta hlts hltn hlen HL HSEQ
        gi_wp2_with (gi_at_builtin; refine tok_append W w.heap.size rfl (.tmp 28) (.tmp 30) rfl v pre ⟨y0, y1, y2, y3⟩ rfl rfl HI.out.2.1 HI.out.2.2.2.2.1.size hlp ?_; intro v1 w1 ho hb hg; obtain ⟨A1, c1, hv1⟩ := Kd.R_slice ho; obtain ⟨q1, hq1⟩ : ∃ q, (pre ++ [(⟨y0, y1, y2, y3⟩ : S31)]).length = q := ⟨_, rfl⟩; rw [hq1] at hv1; subst hv1; have hl1 := blk_grown (blk_alloc HI.out.1 _) hg (Kd.R_ne HI.out.2.1 HI.out.1 (by decide)); have cl1_ := hc1 hl1; have fl1_ := blk_frozen hl1 0)
        have hks := grown_keeps HI.out.2.1 hg
        have hs1 := blk_grown (blk_alloc HI.out.2.2.1 _) hg (Kd.R_ne HI.out.2.1 HI.out.2.2.1 (by decide))
        have hn1 := blk_grown (blk_alloc HI.out.2.2.2.1 _) hg (Kd.R_ne HI.out.2.1 HI.out.2.2.2.1 (by decide))
        have ha1 := blk_grown (blk_alloc HI.out.2.2.2.2.2.2.2 _) hg (Kd.R_ne HI.out.2.1 HI.out.2.2.2.2.2.2.2 (by decide))
        have ht1 := blk_grown (blk_alloc HTk.out _) hg HGV.out
        have hkf := (hks.trans (KeepsOthers.setCell w1 ⟨gl, 0, none⟩ (.slice A1 q1 c1))).from w_.heap.size
        have hs2 := kp (v := w1.setCell ⟨gl, 0, none⟩ (.slice A1 q1 c1)) hs1
        have hn2 := kp (v := w1.setCell ⟨gl, 0, none⟩ (.slice A1 q1 c1)) hn1
        have ha2 := kp (v := w1.setCell ⟨gl, 0, none⟩ (.slice A1 q1 c1)) ha1
        have ht2 := kp (v := w1.setCell ⟨gl, 0, none⟩ (.slice A1 q1 c1)) ht1
        have hl2 := p1_0 (u := .slice A1 q1 c1) hl1
        have hR2 := Kd.R_set ho hl1 (by decide) 0 (.slice A1 q1 c1)
        have hb2 := hb.setCell (p := ⟨gl, 0, none⟩) Gl.out (.slice A1 q1 c1)
        clear hks hs1 hn1 ha1 ht1 hl1 ho hb hg cl1_ fl1_ cl_ fl_ t0_ t1_ t2_ t3_
        generalize w1.setCell ⟨gl, 0, none⟩ (.slice A1 q1 c1) = W2 at hkf hs2 hn2 ha2 ht2 hl2 hR2 hb2 ⊢
        have HJ := Aside0.mk (And.intro hkf (And.intro hs2 (And.intro hn2 (And.intro ha2 (And.intro ht2 (And.intro hl2 (And.intro hR2 hb2)))))))
        have ca_ := hc1 ha2
        have fa_ := blk_frozen ha2 0
        obtain ⟨t0_, t1_, t2_, t3_⟩ := hc4 (show W2.heap[gt]? = some (.cells #[.int .i64 y0, .int .i64 y1, .string y2, .int .i64 y3] 31 (0, 0)) from ht2)
        clear hkf hs2 hn2 ha2 ht2 hl2 hR2 hb2
        have hmx : Tryd.prog.follows .mixedOrders = true := by kernel_rfl
        have hBW := Aside0.mk (Below.refl W2.heap.size W2)
        gi_region_with_o (refine ⟨trivial, ?_⟩; gi_at_call 26; refine (CallsIn.inRound l (callsIn_wide.2 (size_calls ⟨y0, y1, y2, y3⟩ _))).mono ?_; rintro e w5 ⟨rfl, hb5⟩; have ha5 := blk_below (kp HJ.out.2.2.2.1) hb5; have ca5_ := hc1 ha5; have fa5_ := blk_frozen ha5 0; replace hBW := sb hBW hb5; clear hb5)
        all_goals (
          gi_wp2
          have hB5 := hBW.out
          obtain ⟨hkf, hs2, hn2, ha2, ht2, hl2, hR2, hb2⟩ := HJ.out
          have hV : IntKind.i64.wrap (sumW pre + sizeW ⟨y0, y1, y2, y3⟩) = sumW (pre ++ [(⟨y0, y1, y2, y3⟩ : S31)]) := (i64_w _).trans HSN.out.symm
          rw [hV]
          generalize hZ : sumW (pre ++ [(⟨y0, y1, y2, y3⟩ : S31)]) = Z
          have hs5 := kp (v := w5.setCell ⟨ga, 0, none⟩ (.int .i64 Z)) (blk_below hs2 hB5)
          have hn5 := kp (v := w5.setCell ⟨ga, 0, none⟩ (.int .i64 Z)) (blk_below hn2 hB5)
          have hl5 := kp (v := w5.setCell ⟨ga, 0, none⟩ (.int .i64 Z)) (blk_below hl2 hB5)
          have ha6 := p1_0 (u := .int .i64 Z) (blk_below ha2 hB5)
          have hR5 := Kd.R_set (Kd.R_below hR2 hB5) (blk_below ha2 hB5) (by decide) 0 (.int .i64 Z)
          have hk5 := ((KeepsOthers.of_grownBy (below_grown hB5) (fun j o e => by cases e)).trans (KeepsOthers.setCell w5 ⟨ga, 0, none⟩ (.int .i64 Z))).from w_.heap.size
          have hb6 := (hb2.trans (hB5.mono (Nat.le_trans HI.out.2.2.2.2.1.size hb2.size))).setCell (p := ⟨ga, 0, none⟩) Ga.out (.int .i64 Z)
          rw [← hZ] at ha6 hs5 hn5 hl5 hR5 hk5 hb6 ⊢
          exact ⟨hkf.trans hk5, ⟨hb6, hs5.trans HI.out.2.2.1.symm, hn5.trans HI.out.2.2.2.1.symm⟩, ⟨⟨⟨_, hl5, hR5⟩, hs5, hn5⟩, ha6⟩, HI.out.2.2.2.2.1.trans hb6, HI.out.2.2.2.2.2.2.1.trans (hkf.trans hk5)⟩)
      case done =>
        rintro D ys W hD hS ⟨⟨⟨⟨v, hl, hR⟩, hs, hn⟩, ha⟩, hB, _⟩ hK
        replace hS := hS.symm
        subst hS
        rw [sumW_eq _ HLL.out.2.1] at ha
        obtain ⟨A1, c1, rfl⟩ := Kd.R_slice hR
        have cl_ := hc1 hl
        have ca_ := hc1 ha
        have HI := Aside0.mk (And.intro hR (And.intro hB hK))
        have HD := Aside0.mk (Nat.le_trans hz1 hD)
        clear hl hR hs hn ha hB hK hD HL hz1 hltl hlta hlts hltn HSEQ hd hd'
        have HW := Aside0.mk (Below.refl W.heap.size W)
        by_cases hlt : sumT L < s.size
        · have hd2 : decide ((sumT L : Int) < (s.size : Int)) = true := decide_eq_true (by omega)
          go_wp2
          go_region
          all_goals (
            go_wp2
            refine ⟨by simp, .inl ⟨_, _, rfl, run_takeDeferred (kp HI.out.2.2), ?_⟩⟩
            refine ⟨.tuple #[.slice none 0 0, .int .i64 (sumT L : Int), .int .i64 14], ?_, .slice none 0 0, ?_, ?_, ((bl HI.out.2.1).trans (belowK_b (w := w) (Nat.le_refl _) _ D _ (.deferred none) HD.out (kp HI.out.2.2) rfl rfl))⟩
            · simp [results, Tryd.f18, go_sem]
            · rfl
            · exact Kd.R_nil _ _ _ _ _)
        · have hd2 : decide ((sumT L : Int) < (s.size : Int)) = false := decide_eq_false (by omega)
          go_wp2
          go_region
          all_goals (
            go_wp2
            refine ⟨by simp, .inl ⟨_, _, rfl, run_takeDeferred (kp HI.out.2.2), ?_⟩⟩
            refine ⟨.tuple #[.slice A1 L.length c1, .int .i64 (sumT L : Int), .int .i64 0], ?_, .slice A1 L.length c1, ?_, ?_, ((bl HI.out.2.1).trans (belowK_b (w := w) (Nat.le_refl _) _ D _ (.deferred none) HD.out (kp HI.out.2.2) rfl rfl))⟩
            · simp [results, Tryd.f18, go_sem]
            · rfl
            · exact R_kept (Kd.R_below HI.out.1 (bl HW.out)) (grownBy_putObj' _ D (.deferred none)) (fun r e => by cases e; exact ⟨_, kp HI.out.2.2, rfl⟩))
      case stop =>
        rintro D c pre W _ _ h _
        exact h.elim
def lex_Lex.f (a0 : Int) (a1 : ByteArray) : Option (List S31 × Int × Int) := if a1.size ≤ 1000 then (style_Of.f a0).bind fun x => some (lexP x a1) else none
theorem lex_Lex.calls (a0 : Int) (a1 : ByteArray) (r1 : List S31) (r2 r3 : Int) (w : World) (hG : Glob [0, 2] w) (h : lex_Lex.f a0 a1 = some (r1, r2, r3)) :
    Calls Tryd.prog 18 #[.int .i64 a0, .string a1] w fun e w' => ∃ v0_ : Value, e = .returned (.tuple #[v0_, .int .i64 r2, .int .i64 r3]) ∧ Kd.R k31 31 w' w.heap.size (fun _ => True) v0_ r1 ∧ Below w.heap.size w w' := by
  unfold lex_Lex.f at h
  by_cases hs : a1.size ≤ 1000
  · rw [if_pos hs] at h
    obtain ⟨x, hx, h⟩ := Option.bind_eq_some_iff.mp h
    have h := Option.some.inj h
    have := lex_calls a0 a1 x hx hs w hG
    rw [h] at this
    exact this
  · rw [if_neg hs] at h; cases h
end Go.Proofs.YtimkhjbnkcgekaaDoor
