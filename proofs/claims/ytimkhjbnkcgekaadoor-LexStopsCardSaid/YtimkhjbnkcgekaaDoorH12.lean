/- LexStops: for any notation, any text and any count the law's function answers true. Its conditions: whole numbers of 64 bits; the listed variables as they were laid. -/
import Derived.Test.YtimkhjbnkcgekaaDoorV4
namespace Go.Proofs.YtimkhjbnkcgekaaDoor
open Go Go.RowKit Go.Shelf Flat Go.Proofs.YtimkhjbnkcgekaaDoor.Lx Go.Proofs.YtimkhjbnkcgekaaDoor.Sq Go.Proofs.YtimkhjbnkcgekaaDoor.PB Go.Proofs.YtimkhjbnkcgekaaDoor.PC Go.Proofs.YtimkhjbnkcgekaaDoor.PQ Go.Proofs.YtimkhjbnkcgekaaDoorW.PrintWords Go.Proofs.YtimkhjbnkcgekaaDoorW.PrintLast Go.Proofs.YtimkhjbnkcgekaaDoorW.PrintMore
attribute [local go_sem] max2_int min2_int max_two min_two max_three min_three max_four min_four   -- for this text's walks alone
attribute [local go_sem] Oper.semAt_some
set_option linter.unusedVariables false
set_option linter.unusedSimpArgs false
theorem same_cut (pre L : List S31) (A A2 : Option Addr) (c c2 m : Nat) (W : World) (h1 : Kd.C k31 W A2 pre.length pre) (h1c : pre.length ≤ c2) (h2 : Kd.C k31 W A L.length L) (h2c : L.length ≤ c) (hm : m ≤ L.length) (he : L.take m = pre) (hl : pre.length ≤ 1000) :
    Calls Tryd.prog 16 #[.slice A2 pre.length c2, .slice A m c] W fun e w' => e = .returned (.bool true) ∧ Drawn0 W w' := by
  have hml : pre.length = m := by rw [← he, List.length_take]; omega
  subst hml
  have h3 : Kd.C k31 W A pre.length pre := by have := Kd.C_take h2 hm; rw [he] at this; exact this
  exact drachmref08_Same.calls 2000 A2 c2 pre A c pre true W h1 h1c h3 (by omega) (same_refl pre (by omega) 2000 (by omega))
/-- What the loop keeps: the few in their box, all of them, how many are to be taken, the two boxes that the closure reads. -/
structure E3 (gl gk gs gn B0 base : Nat) (m : Int) (s : ByteArray) (take : Nat) (A : Option Addr) (c : Nat) (L pre : List S31) (W : World) : Prop where
  l : ∃ v, W.heap[gl]? = some (.cells #[v] 28 (0, 0)) ∧ Kd.R k31 31 W B0 (fun _ => True) v pre
  r : Kd.R k31 31 W base (fun k => k < B0) (.slice A L.length c) L
  k : W.heap[gk]? = some (.cells #[.int .i64 (take : Int)] 3 (0, 0))
  s : W.heap[gs]? = some (.cells #[.string s] 9 (0, 0))
  n : W.heap[gn]? = some (.cells #[.int .i64 m] 3 (0, 0))
theorem E3.kept {gl gk gs gn B0 base : Nat} {m : Int} {s : ByteArray} {take : Nat} {A : Option Addr} {c : Nat} {L pre : List S31} {X Y : World} {row : Option Nat} (h : E3 gl gk gs gn B0 base m s take A c L pre X) (hg : X.grownBy Y row) (hr : ∀ r, row = some r → ∃ o : Obj, X.heap[r]? = some o ∧ o.isCells = false) : E3 gl gk gs gn B0 base m s take A c L pre Y := by
  obtain ⟨⟨v, h1, h2⟩, h3, h4, h5, h6⟩ := h
  exact ⟨⟨v, row_kept h1 hg hr, R_kept h2 hg hr⟩, R_kept h3 hg hr, row_kept h4 hg hr, row_kept h5 hg hr, row_kept h6 hg hr⟩
set_option maxHeartbeats 8000000 in
set_option maxRecDepth 100000 in
theorem stops_walk (a0 : Int) (a1 : ByteArray) (a2 : Int) (w : World) (hG : Glob [0, 2] w) :
    Calls Tryd.prog 5 #[.int .i64 a0, .string a1, .int .i64 a2] w fun e w' => e = .returned (.bool true) ∧ Below w.heap.size w w' := by
  have hfn := func_nil
  obtain ⟨r, er, r0, r1⟩ := rest_eq a0 5 (by omega) (by omega)
  obtain ⟨s, es, hs⟩ := short_eq a1 120 (by omega)
  obtain ⟨tk, et, k0, k1⟩ := rest_eq a2 12 (by omega) (by omega)
  obtain ⟨take, rfl⟩ : ∃ q : Nat, tk = (q : Int) := ⟨tk.toNat, by omega⟩
  obtain ⟨m, hm⟩ : ∃ m, m = 1 + r := ⟨_, rfl⟩
  have hw : wrap64 (1 + r) = m := by rw [w64 (by omega) (by omega), hm]
  have hw2 : IntKind.i64.wrap (1 + r) = m := (i64_w _).trans hw
  obtain ⟨x, hx⟩ : ∃ x : Sty, style_Of.f m = some x := of_some m
  have hLL := all_length x (bytesOf s)
  rw [bytesOf_length] at hLL
  have HSEQ := Aside0.mk (fun (Bs Bn : Nat) (W : World) => each_stops 8 (by omega) Bs Bn w hG m s x hx (by omega) W)
  have HE := Aside0.mk (each_f m s (by omega) hx)
  have HG := Aside0.mk hG
  have HA := Aside0.mk awake_true
  have HR1 := Aside0.mk er
  have HR2 := Aside0.mk et
  have HSH := Aside0.mk es
  obtain ⟨L, hL⟩ : ∃ L, all x (bytesOf s) = L := ⟨_, rfl⟩
  simp only [hL] at HSEQ HE hLL
  have HLL := Aside0.mk (show L.length ≤ 1000 ∧ take < 12 from ⟨by omega, by omega⟩)
  have HB := Aside0.mk (Below.refl w.heap.size w)
  clear hG er es et hx hL hLL hs r0 r1 k0 k1 hm
  refine (callsIn_wide (n := 9)).1 ?_
  refine callsIn_of_wp_marks Tryd.func5 rfl trivial ?_ rfl
  refine (wpIn_wide (n := 9)).2 ?_
  simp only [Tryd.ntmps5, List.size_toArray, List.length_cons, List.length_nil, Nat.reduceAdd, Nat.reduceSub, Array.replicate_succ, Array.replicate_zero, List.push_toArray, List.append_toArray, List.nil_append, List.cons_append]
  go_wp2_with (first
    | (go_at_call 10; (with_reducible refine (drachmlaw08_awake.calls true _ (Glob.use HG.out (by decide) (bl HB.out)) HA.out).mono ?_); rintro e w_ ⟨rfl, hb⟩; replace HB := sb HB hb; clear hb)
    | (go_at_call 12; (with_reducible refine (drachmlaw08_rest.calls a0 5 r _ HR1.out).mono ?_); rintro e w_ ⟨rfl, ⟨q1, rfl⟩⟩)
    | (go_at_call 11; (with_reducible refine (drachmlaw08_short.calls a1 120 s _ HSH.out).mono ?_); rintro e w_ ⟨rfl, ⟨q2, rfl⟩⟩)
    | (go_at_call 14; (with_reducible refine (drachmlaw08_each.calls m s L _ (Glob.use HG.out (by decide) (bl HB.out)) HE.out).mono ?_); rintro e w_ ⟨v0, rfl, hR, hb⟩; obtain ⟨A, c, rfl⟩ := Kd.R_slice hR; obtain ⟨base, HR⟩ : ∃ base, Aside0 (Kd.R k31 31 w_ base (fun _ => True) (.slice A L.length c) L) := ⟨_, ⟨hR⟩⟩; replace HB := sb HB hb; clear hb hR)
    | (go_at_call 12; (with_reducible refine (drachmlaw08_rest.calls a2 12 (take : Int) _ HR2.out).mono ?_); rintro e w_ ⟨rfl, ⟨q3, rfl⟩⟩)
    | ((with_reducible refine gate_dst (N := 10) rfl ?_); refine box_event ?hg (N := 10) ?hd (cs := #[.int .i64 0]) (t := 3) ?hr ?_; (case hd => rfl); (case hg => rfl); (case hr => first | (go_simp; done) | (go_simp; rfl)); intro gk hg_ wk_ hbox hb; have Gk := Aside0.mk (bsz (bl HB.out) hg_ : w.heap.size ≤ gk); replace HR := Aside0.mk (Kd.R_below (Kd.R_drewN HR.out q3) hb); replace HB := sb HB hb; have Bk := Aside0.mk hbox; have ck_ := hc1 hbox; have fk_ := blk_frozen hbox 0; clear hbox hb hg_)
    | ((with_reducible refine gate_dst (N := 11) rfl ?_); refine box_event ?hg (N := 11) ?hd (cs := #[.slice none 0 0]) (t := 28) ?hr ?_; (case hd => rfl); (case hg => rfl); (case hr => first | (go_simp; done) | (go_simp; rfl)); intro gl hg_ wl_ hbox hb; have Gl := Aside0.mk (bsz (bl HB.out) hg_ : w.heap.size ≤ gl); have Nkl := Aside0.mk (nlt (p1_0 (u := .int .i64 (take : Int)) Bk.out) hg_ : gk ≠ gl); have Nlk := Aside0.mk (ngt (p1_0 (u := .int .i64 (take : Int)) Bk.out) hg_ : gl ≠ gk); replace HR := Aside0.mk (Kd.R_below (Kd.R_set HR.out Bk.out (by decide) 0 (.int .i64 (take : Int))) hb); replace Bk := Aside0.mk (blk_below (p1_0 (u := .int .i64 (take : Int)) Bk.out) hb); replace HB := sb HB hb; have Bl := Aside0.mk hbox; clear ck_ fk_ hbox hb hg_)
    | (go_at_call 15; (with_reducible refine (each_new m s _).mono ?_); rintro e w_ ⟨gn, gs, rfl, hgn, hgs, hne, hbn, hbs, hb⟩; have Nsl := Aside0.mk (Nat.ne_of_gt (Nat.lt_of_lt_of_le (blk_lt (kp Bl.out)) hgs)); have Nnl := Aside0.mk (Nat.ne_of_gt (Nat.lt_of_lt_of_le (blk_lt (kp Bl.out)) hgn)); replace HR := Aside0.mk (Kd.R_below HR.out hb); replace Bk := kb Bk hb; replace Bl := kb Bl hb; replace HB := sb HB hb; have Bn := Aside0.mk hbn; have Bs := Aside0.mk hbs; clear hbn hbs hb hgn hgs hne))
  have hz1 := below_size HB.out
  have hltl := blk_lt Bl.out
  have hltk := blk_lt Bk.out
  have hlts := blk_lt Bs.out
  have hltn := blk_lt Bn.out
  have HLE := Aside0.mk hz1
  have HLD := Aside0.mk (And.intro hltl (And.intro hltk (And.intro hlts hltn)))
  have HL := Aside0.mk (show E3 gl gk gs gn w_.heap.size base m s take A c L [] w_ from ⟨⟨_, Bl.out, Kd.R_nil _ _ _ _ _⟩, Kd.R_mono (Kd.R_bound HR.out) (fun _ hk => hk.2.2.1), Bk.out, Bs.out, Bn.out⟩)
  clear hw hw2
  refine (wpIn_wide (n := 9)).1 ?_
  refine wpIn_rangeFunc_ownH rfl (by omega) (gf := 23) (lb := #[.pointer (some ⟨gs, 0, none⟩), .pointer (some ⟨gn, 0, none⟩)]) rfl trivial (enters_of Tryd.func23 (by kernel_rfl) rfl)
    (HSEQ.out gs gn w_ HB.out Bs.out Bn.out) Kp2_t (Kp2_b hz1 hlts hltn) (Below.refl _ _) (fun _ => rfl)
    (fun pre W => E3 gl gk gs gn w_.heap.size base m s take A c L pre W ∧ pre.length ≤ take ∧ Below w.heap.size w W ∧ KeepsFrom w_.heap.size w_ W)
    (fun cc pre W => cc = .exit 0 ∧ (∃ q y, pre = q ++ [y] ∧ q.length = take ∧ E3 gl gk gs gn w_.heap.size base m s take A c L q W) ∧ Below w.heap.size w W)
    (fun pre X Y row hs hg hr => ⟨E3.kept hs.1 hg (fun r e => (hr r e).2), hs.2.1, ownFrom_below (β := Unit) (Nat.le_refl _) hz1 () X Y row hs.2.2.1 hg hr, ownFrom_keepsFrom (β := Unit) (Nat.le_refl _) () X Y row hs.2.2.2 hg hr⟩)
    (fun cc pre X Y row hs hg hr => by
      obtain ⟨h1, ⟨q, y, h2, h3, h4⟩, h5⟩ := hs
      exact ⟨h1, ⟨q, y, h2, h3, E3.kept h4 hg (fun r e => (hr r e).2)⟩, ownFrom_below (β := Unit) (Nat.le_refl _) hz1 () X Y row h5 hg hr⟩)
    ⟨HL.out, Nat.zero_le _, HB.out, KeepsFrom.refl _ _⟩
    (fun y a' W => ∃ gt, a' = { tmps := #[.int .i64 a0, .string s, .int .i64 a2, undef, undef, undef, .bool false, .bool true, .int .i64 m, .slice A L.length c, .pointer (some ⟨gk, 0, none⟩), .pointer (some ⟨gl, 0, none⟩), .func (.func 23) #[] #[.pointer (some ⟨gs, 0, none⟩), .pointer (some ⟨gn, 0, none⟩)], .pointer (some ⟨gt, 0, none⟩), .bool true, .int .i64 a0, .int .i64 r, .int .i64 m, .string a1, .string s, .int .i64 m, .string s, .slice A L.length c, .int .i64 a2, .int .i64 (take : Int), .int .i64 m, .string s, .func (.func 23) #[] #[.pointer (some ⟨gs, 0, none⟩), .pointer (some ⟨gn, 0, none⟩)], .func (.func 23) #[] #[.pointer (some ⟨gs, 0, none⟩), .pointer (some ⟨gn, 0, none⟩)], .bool false, .func (.func 23) #[] #[.pointer (some ⟨gs, 0, none⟩), .pointer (some ⟨gn, 0, none⟩)], .agg (tokC y), undef, undef, undef, undef, undef, undef, undef, undef, undef, undef, undef, undef, undef, undef, undef, undef, undef, undef, undef], defers := [] } ∧ w_.heap.size ≤ gt ∧ W.heap[gt]? = some (.cells (tokC y) 31 (0, 0)))
    (fun y a' u X Y row hs hg hr => by
      obtain ⟨gt, h1, h2, h3⟩ := hs
      exact ⟨gt, h1, h2, row_kept h3 hg (fun r e => (hr r e).2)⟩) ?assign ?body ?done ?stop
  case assign =>
    rintro l pre ⟨y0, y1, y2, y3⟩ W K ⟨hI, hln, hB, hI1⟩ hK
    dsimp only [tokC]
    gi_wp2
    have hbw : Below W.heap.size W (W.alloc (.cells #[.int .i64 y0, .int .i64 y1, .string y2, .int .i64 y3] 31)) := below_alloc (Below.refl _ _) _
    have hsz := hB.size
    refine hK _ _ ((KeepsOthers.alloc W _).from _) (Kp2_below hbw hsz (blk_lt hI.s) (blk_lt hI.n)) ⟨E3.kept hI (below_grown hbw) (fun r e => by cases e), hln, below_step hB hbw, hI1.trans ((KeepsOthers.alloc W _).from _)⟩ ⟨W.heap.size, rfl, ?_, heap_alloc_new _ _⟩
    exact hI1.size
  case body =>
    rintro l pre y a' W hlW hrec ⟨hI, hln, hB, hI1⟩ ⟨gt, rfl, hgt, htok⟩ hlen
    obtain ⟨y0, y1, y2, y3⟩ := y
    obtain ⟨⟨v, hl, hR⟩, hra, hk, hs, hn⟩ := hI
    obtain ⟨A2, c2, rfl⟩ := Kd.R_slice hR
    have hNE : gt ≠ gl := by omega
    have HI := Aside0.mk (And.intro hl (And.intro hR (And.intro hs (And.intro hn (And.intro hB (And.intro hgt hI1))))))
    have HJ := Aside0.mk (And.intro hra hk)
    have HTk := Aside0.mk htok
    have HNE := Aside0.mk hNE
    have hlp : pre.length ≤ 100000 := by have := HLL.out.1; omega
    have cl_ := hc1 hl
    have ck_ := hc1 hk
    have fl_ := blk_frozen hl 0
    obtain ⟨t0_, t1_, t2_, t3_⟩ := hc4 (show W.heap[gt]? = some (.cells #[.int .i64 y0, .int .i64 y1, .string y2, .int .i64 y3] 31 (0, 0)) from htok)
    have HLN := Aside0.mk hln
    clear hl hR hs hn hB hgt htok hNE hlW hrec hI1 hra hk hln hlen HL hz1 hltl hltk hlts hltn
    by_cases hq : pre.length = take
    · have hqq : ((pre.length : Nat) : Int) = ((take : Nat) : Int) := by rw [hq]
      have HQ := Aside0.mk hq
      clear hq
      gi_wp2
      exact ⟨KeepsFrom.refl _ _, rfl, ⟨pre, ⟨y0, y1, y2, y3⟩, rfl, HQ.out, ⟨⟨_, HI.out.1, HI.out.2.1⟩, HJ.out.1, HJ.out.2, HI.out.2.2.1, HI.out.2.2.2.1⟩⟩, HI.out.2.2.2.2.1⟩
    · have hqq : ¬ ((pre.length : Nat) : Int) = ((take : Nat) : Int) := fun h => hq (by omega)
      have HQ := Aside0.mk (show (pre ++ [(⟨y0, y1, y2, y3⟩ : S31)]).length ≤ take by rw [List.length_append, List.length_singleton]; have := HLN.out; omega)
      clear hq
      gi_wp2_with (gi_at_builtin; refine tok_append W w_.heap.size rfl (.tmp 36) (.tmp 38) rfl (.slice A2 pre.length c2) pre ⟨y0, y1, y2, y3⟩ rfl rfl HI.out.2.1 HI.out.2.2.2.2.2.2.size hlp ?_; intro v1 w1 ho hb hg; obtain ⟨A1, c1, hv1⟩ := Kd.R_slice ho; obtain ⟨q1, hq1⟩ : ∃ q, (pre ++ [(⟨y0, y1, y2, y3⟩ : S31)]).length = q := ⟨_, rfl⟩; rw [hq1] at hv1; subst hv1; have hl1 := blk_grown (blk_alloc HI.out.1 _) hg (Kd.R_ne HI.out.2.1 HI.out.1 (by decide)); have cl1_ := hc1 hl1; have fl1_ := blk_frozen hl1 0)
      have hks := grown_keeps HI.out.2.1 hg
      have hra1 := Kd.R_step HJ.out.1 (fun k ok _ => hb.block k ok)
      have hk1 := (hb.block gk HLD.out.2.1).trans HJ.out.2
      have hs1 := (hb.block gs HLD.out.2.2.1).trans HI.out.2.2.1
      have hn1 := (hb.block gn HLD.out.2.2.2).trans HI.out.2.2.2.1
      have hkf := (hks.trans (KeepsOthers.setCell w1 ⟨gl, 0, none⟩ (.slice A1 q1 c1))).from w_.heap.size
      have hs2 := kp (v := w1.setCell ⟨gl, 0, none⟩ (.slice A1 q1 c1)) hs1
      have hn2 := kp (v := w1.setCell ⟨gl, 0, none⟩ (.slice A1 q1 c1)) hn1
      have hk2 := kp (v := w1.setCell ⟨gl, 0, none⟩ (.slice A1 q1 c1)) hk1
      have hb3 := (hb.mono HLE.out).setCell (p := ⟨gl, 0, none⟩) Gl.out (.slice A1 q1 c1)
      exact ⟨hkf, ⟨hb3, hs2.trans HI.out.2.2.1.symm, hn2.trans HI.out.2.2.2.1.symm⟩, ⟨⟨_, p1_0 hl1, Kd.R_set ho hl1 (by decide) 0 _⟩, Kd.R_set hra1 hl1 (by decide) 0 _, hk2, hs2, hn2⟩, HQ.out, HI.out.2.2.2.2.1.trans hb3, HI.out.2.2.2.2.2.2.trans hkf⟩
  case done =>
    rintro D ys W hD hS ⟨hI, hln, hB, _⟩ hK
    replace hS := hS.symm
    subst hS
    obtain ⟨mm, hme⟩ : ∃ q, q = L.length := ⟨_, rfl⟩
    have hmm : mm ≤ L.length := by omega
    have htk : L.take mm = L := by rw [hme]; exact List.take_length
    have hql : L.length ≤ 1000 := HLL.out.1
    have hmin : min take L.length = mm := by omega
    obtain ⟨⟨v, hl, hR⟩, hra, hk, hs, hn⟩ := hI
    obtain ⟨A2, c2, rfl⟩ := Kd.R_slice hR
    have cl_ := hc1 hl
    have ck_ := hc1 hk
    have hcap := (Kd.R_reads' hra).2.1
    have hcq := (Kd.R_reads' hR).2.1
    have HSM := Aside0.mk (fun (W' : World) (hb' : Below W.heap.size W W') => same_cut L L A A2 c c2 mm W' (Kd.R_reads' (Kd.R_below hR hb')).2.2 hcq (Kd.R_reads' (Kd.R_below hra hb')).2.2 hcap hmm htk hql)
    have HI := Aside0.mk (And.intro hB (And.intro hK (Nat.le_trans hz1 hD)))
    have hm0 := eq_true (show (0 : Int) ≤ (mm : Int) by omega)
    have hm1 := eq_true (show (mm : Int) ≤ (c : Int) by omega)
    have hm2 := eq_true (show mm ≤ c by omega)
    have hm3 := eq_true (show (mm : Int) ≤ (L.length : Int) by omega)
    have hmn : mn ((take : Nat) : Int) ((L.length : Nat) : Int) = ((mm : Nat) : Int) := by unfold mn; split <;> omega
    have hmn2 : (if L.length < take then ((L.length : Nat) : Int) else ((take : Nat) : Int)) = ((mm : Nat) : Int) := by split <;> omega
    have HW := Aside0.mk (Below.refl W.heap.size W)
    clear hl hR hra hk hs hn hB hK hD hz1 hltl hltk hlts hltn HL hcap hcq hmm htk hql hmin
    clear hme hln
    go_wp2_with (fail)
    go_quiet (first | (go_at_call 16; (with_reducible refine (HSM.out _ (bl HW.out)).mono ?_); rintro e w' ⟨rfl, ⟨nd, rfl⟩⟩; (first | exact ⟨rfl, _, World.drewN_drewN _ _ _⟩ | exact ⟨rfl, _, Eq.trans (World.drewN_drewN _ _ _) (congrArg (World.drewN _) (Nat.add_assoc _ _ _))⟩)))
    go_wp2_with (fail)
    refine ⟨by simp, .inl ⟨_, _, rfl, run_takeDeferred (kp HI.out.2.1), ?_⟩⟩
    refine ⟨.bool true, ?_, rfl, (bl HI.out.1).trans (belowK_b (w := w) (Nat.le_refl _) _ D _ (.deferred none) HI.out.2.2 (kp HI.out.2.1) rfl rfl)⟩
    simp [results, Tryd.f5, go_sem]
  case stop =>
    rintro D cc pre W hD hS ⟨rfl, ⟨q, y, rfl, hq, hI⟩, hB⟩ hK
    obtain ⟨mm, hme⟩ : ∃ z, z = take := ⟨_, rfl⟩
    have hpl := hS.length_le
    rw [List.length_append, List.length_singleton] at hpl
    have hmm : mm ≤ L.length := by omega
    have htk : L.take mm = q := by
      obtain ⟨z, hz⟩ := hS
      rw [← hz, List.append_assoc, hme, ← hq]
      exact List.take_left
    have hql : q.length ≤ 1000 := by have := HLL.out.1; omega
    have hmin : min take L.length = mm := by omega
    obtain ⟨⟨v, hl, hR⟩, hra, hk, hs, hn⟩ := hI
    obtain ⟨A2, c2, rfl⟩ := Kd.R_slice hR
    have cl_ := hc1 hl
    have ck_ := hc1 hk
    have hcap := (Kd.R_reads' hra).2.1
    have hcq := (Kd.R_reads' hR).2.1
    have HSM := Aside0.mk (fun (W' : World) (hb' : Below W.heap.size W W') => same_cut q L A A2 c c2 mm W' (Kd.R_reads' (Kd.R_below hR hb')).2.2 hcq (Kd.R_reads' (Kd.R_below hra hb')).2.2 hcap hmm htk hql)
    have HI := Aside0.mk (And.intro hB (And.intro hK (Nat.le_trans hz1 hD)))
    have hm0 := eq_true (show (0 : Int) ≤ (mm : Int) by omega)
    have hm1 := eq_true (show (mm : Int) ≤ (c : Int) by omega)
    have hm2 := eq_true (show mm ≤ c by omega)
    have hm3 := eq_true (show (mm : Int) ≤ (L.length : Int) by omega)
    have hmn : mn ((take : Nat) : Int) ((L.length : Nat) : Int) = ((mm : Nat) : Int) := by unfold mn; split <;> omega
    have hmn2 : (if L.length < take then ((L.length : Nat) : Int) else ((take : Nat) : Int)) = ((mm : Nat) : Int) := by split <;> omega
    have HW := Aside0.mk (Below.refl W.heap.size W)
    clear hl hR hra hk hs hn hB hK hD hz1 hltl hltk hlts hltn HL hcap hcq hmm htk hql hmin
    clear hpl hme hq hS
    gi_wp2
    go_wp2_with (fail)
    go_quiet (first | (go_at_call 16; (with_reducible refine (HSM.out _ (bl HW.out)).mono ?_); rintro e w' ⟨rfl, ⟨nd, rfl⟩⟩; (first | exact ⟨rfl, _, World.drewN_drewN _ _ _⟩ | exact ⟨rfl, _, Eq.trans (World.drewN_drewN _ _ _) (congrArg (World.drewN _) (Nat.add_assoc _ _ _))⟩)))
    go_wp2_with (fail)
    refine ⟨by simp, .inl ⟨_, _, rfl, run_takeDeferred (kp HI.out.2.1), ?_⟩⟩
    refine ⟨.bool true, ?_, rfl, (bl HI.out.1).trans (belowK_b (w := w) (Nat.le_refl _) _ D _ (.deferred none) HI.out.2.2 (kp HI.out.2.1) rfl rfl)⟩
    simp [results, Tryd.f5, go_sem]
end Go.Proofs.YtimkhjbnkcgekaaDoor
