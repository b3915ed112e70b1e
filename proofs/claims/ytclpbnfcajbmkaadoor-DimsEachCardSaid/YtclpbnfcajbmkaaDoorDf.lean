/- DimsEach: for any dims and any number the law's function answers true. Its conditions: whole numbers of 64 bits; the listed variables as they were laid. -/
import Derived.Test.YtclpbnfcajbmkaaDoorTy6
namespace Go.Proofs.YtclpbnfcajbmkaaDoor.Di
open Go Go.RowKit Go.Shelf Go.Proofs Go.Proofs.YtclpbnfcajbmkaaDoor Go.Proofs.YtclpbnfcajbmkaaDoor.PB Go.Proofs.YtclpbnfcajbmkaaDoor.PQ Go.Proofs.YtclpbnfcajbmkaaDoor.Bu Go.Proofs.YtclpbnfcajbmkaaDoor.Sq Go.Proofs.YtclpbnfcajbmkaaDoorW.PrintWords Go.Proofs.YtclpbnfcajbmkaaDoorW.PrintLast Go.Proofs.YtclpbnfcajbmkaaDoorW.PrintMore
attribute [local go_sem] max2_int min2_int max_two min_two max_three min_three max_four min_four   -- for this text's walks alone
attribute [local go_sem] Oper.semAt_some
set_option linter.unusedVariables false
set_option linter.unusedSimpArgs false
theorem row_kept {X Y : World} {g : Nat} {cs : Array Value} {t : TypeId} {fr : Nat × Nat} {row : Option Nat} (h : X.heap[g]? = some (.cells cs t fr)) (hg : X.grownBy Y row) (hr : ∀ r, row = some r → ∃ o : Obj, X.heap[r]? = some o ∧ o.isCells = false) : Y.heap[g]? = some (.cells cs t fr) :=
  (hg.block g (blk_lt h) (fun e1 => by
    obtain ⟨o, ho, hc⟩ := hr g e1.symm
    rw [h] at ho; cases ho; cases hc)).trans h
theorem ne_of_cells {W : World} {g h : Nat} {o p : Obj} (a : W.heap[g]? = some o) (b : W.heap[h]? = some p) (e : o.isCells = p.isCells → False := by decide) : g ≠ h := by
  rintro rfl
  rw [a] at b
  cases b
  exact e rfl
theorem setAll_upto (f : Nat → Int) : ∀ k, k ≤ 7 → setAll (nz (L7 f) k) (fun _ => 0) = cutF f k
  | 0, _ => by funext q; show (0 : Int) = if q < 0 then f q else 0; rw [if_neg (by omega)]
  | k + 1, h => by
    have h4 := setAll_upto f k (by omega)
    rw [nz_next f k (by omega)]
    split
    · rename_i h0
      rw [h4]
      funext q
      unfold cutF
      by_cases hq : q < k
      · rw [if_pos hq, if_pos (by omega)]
      · rw [if_neg hq]
        by_cases hq1 : q < k + 1
        · rw [if_pos hq1, show q = k from by omega, h0]
        · rw [if_neg hq1]
    · unfold setAll at h4 ⊢
      rw [List.foldl_append, h4]
      funext q
      show (if q = k then f k else cutF f k q) = cutF f (k + 1) q
      unfold cutF
      by_cases hq : q = k
      · rw [if_pos hq, if_pos (by omega), hq]
      · rw [if_neg hq]
        by_cases hq1 : q < k
        · rw [if_pos hq1, if_pos (by omega)]
        · rw [if_neg hq1, if_neg (by omega)]
theorem setAll_nz (f : Nat → Int) : setAll (nz (L7 f) 7) (fun _ => 0) = cutF f 7 := setAll_upto f 7 (Nat.le_refl _)
def lastOf (l : List (Nat × Int)) : Int := match l.getLast? with | none => -1 | some x => (x.1 : Int)
theorem lastOf_snoc (l : List (Nat × Int)) (x : Nat × Int) : lastOf (l ++ [x]) = (x.1 : Int) := by simp [lastOf]
theorem nz_lt (f : Nat → Int) : ∀ k, k ≤ 7 → lastOf (nz (L7 f) k) < (k : Int)
  | 0, _ => by show (-1 : Int) < 0; decide
  | k + 1, h => by
    have ih := nz_lt f k (by omega)
    rw [nz_next f k (by omega)]
    split
    · omega
    · rw [lastOf_snoc]; show (k : Int) < _; omega
theorem nz_good (f : Nat → Int) : ∀ k, k ≤ 7 → ∀ q x, nz (L7 f) k = q ++ [x] → lastOf q < (x.1 : Int) ∧ x.2 ≠ 0
  | 0, _, q, x, e => by simp [nz] at e
  | k + 1, h, q, x, e => by
    rw [nz_next f k (by omega)] at e
    split at e
    · exact nz_good f k (by omega) q x e
    · rename_i h0
      obtain ⟨rfl, e2⟩ := List.append_inj' e rfl
      cases e2
      exact ⟨nz_lt f k (by omega), h0⟩
theorem func_nil (lb : Array Value) (W : World) : (binOp BinOp.eql 32 (Value.func (Fn.func 26) #[] lb) Value.nilFunc).run Tryd.prog W = .ok (.bool false) W := by
  have h := Tryd.underlying32
  first
    | rfl
    | kernel_rfl
    | (simp [binOp, Op.equal, Op.equalIn, run_underlying h]; done)
theorem each_new (f : Nat → Int) (X : World) : Calls Tryd.prog 14 #[.agg (A7 f)] X fun e W => ∃ g, e = .returned (.func (.func 26) #[] #[.pointer (some ⟨g, 0, none⟩)]) ∧ g = X.heap.size ∧ W.heap[g]? = some (.cells (A7 f) 23 (0, 0)) ∧ Below X.heap.size X W := by
  refine ((callsIn_wide (n := 9)).1 (each_in Fence.wide 9 trivial rfl (f 0) (f 1) (f 2) (f 3) (f 4) (f 5) (f 6) X)).mono ?_
  rintro e W ⟨rfl, rfl⟩
  exact ⟨_, rfl, rfl, blk_new_ X _, (Below.refl _ _).alloc (Nat.le_refl _) _⟩
/-- What the first loop keeps: the numbers, the answer, those that were taken, the last place, how many. -/
structure L1 (f : Nat → Int) (ga gr gb gl gn : Nat) (l' : List (Nat × Int)) (W : World) : Prop where
  a : W.heap[ga]? = some (.cells (A7 f) 23 (0, 0))
  r : W.heap[gr]? = some (.cells #[.bool false] 4 (0, 0))
  b : W.heap[gb]? = some (.cells (A7 (setAll l' fun _ => 0)) 23 (0, 0))
  l : W.heap[gl]? = some (.cells #[.int .i64 (lastOf l')] 3 (0, 0))
  n : W.heap[gn]? = some (.cells #[.int .i64 (l'.length : Int)] 3 (0, 0))
theorem L1.kept {f : Nat → Int} {ga gr gb gl gn : Nat} {l : List (Nat × Int)} {X Y : World} {row : Option Nat} (h : L1 f ga gr gb gl gn l X) (hg : X.grownBy Y row) (hr : ∀ r, row = some r → ∃ o : Obj, X.heap[r]? = some o ∧ o.isCells = false) : L1 f ga gr gb gl gn l Y :=
  ⟨row_kept h.a hg hr, row_kept h.r hg hr, row_kept h.b hg hr, row_kept h.l hg hr, row_kept h.n hg hr⟩
theorem own_L1 (f : Nat → Int) (ga gr gb gl gn : Nat) : Own (fun (pre : List (At7 (L7 f))) W => L1 f ga gr gb gl gn (pre.map Subtype.val) W) := fun s A B row hs hg hr => L1.kept hs hg hr
/-- A yield that no row of powers tells. -/
def Bad (l : List (Nat × Int)) : Prop := ∃ q x, l = q ++ [x] ∧ ¬ (lastOf q < (x.1 : Int) ∧ x.2 ≠ 0)
/-- What the second loop keeps. -/
structure L2 (f : Nat → Int) (ga gr gb gn gk gg : Nat) (k : Int) (m : Nat) (W : World) : Prop where
  a : W.heap[ga]? = some (.cells (A7 f) 23 (0, 0))
  r : W.heap[gr]? = some (.cells #[.bool false] 4 (0, 0))
  b : W.heap[gb]? = some (.cells (A7 (cutF f 7)) 23 (0, 0))
  n : W.heap[gn]? = some (.cells #[.int .i64 ((nz (L7 f) 7).length : Int)] 3 (0, 0))
  k : W.heap[gk]? = some (.cells #[.int .i64 k] 3 (0, 0))
  g : W.heap[gg]? = some (.cells #[.int .i64 (m : Int)] 3 (0, 0))
theorem L2.kept {f : Nat → Int} {ga gr gb gn gk gg m : Nat} {k : Int} {X Y : World} {row : Option Nat} (h : L2 f ga gr gb gn gk gg k m X) (hg : X.grownBy Y row) (hr : ∀ r, row = some r → ∃ o : Obj, X.heap[r]? = some o ∧ o.isCells = false) : L2 f ga gr gb gn gk gg k m Y :=
  ⟨row_kept h.a hg hr, row_kept h.r hg hr, row_kept h.b hg hr, row_kept h.n hg hr, row_kept h.k hg hr, row_kept h.g hg hr⟩
theorem own_I2 (f : Nat → Int) (ga gr gb gn gk gg gD k B : Nat) (hD : gD < B) : OwnFrom B (fun (pre : List (At7 (L7 f))) W => L2 f ga gr gb gn gk gg k pre.length W ∧ pre.length ≤ k ∧ W.heap[gD]? = some (.deferred (some []))) :=
  fun s A Y row hs hg hr => ⟨L2.kept hs.1 hg (fun r e => (hr r e).2), hs.2.1, (hg.block gD (blk_lt hs.2.2) (fun e => by have := (hr gD e.symm).1; omega)).trans hs.2.2⟩
theorem own_X2 (f : Nat → Int) (ga gr gb gn gk gg gD k B : Nat) (hD : gD < B) (c : Code) : OwnFrom B (fun (pre : List (At7 (L7 f))) W => c = .exit 2 ∧ pre.length = k + 1 ∧ L2 f ga gr gb gn gk gg k k W ∧ W.heap[gD]? = some (.deferred (some []))) :=
  fun s A Y row hs hg hr => ⟨hs.1, hs.2.1, L2.kept hs.2.2.1 hg (fun r e => (hr r e).2), (hg.block gD (blk_lt hs.2.2.2) (fun e => by have := (hr gD e.symm).1; omega)).trans hs.2.2.2⟩
set_option maxHeartbeats 8000000 in
set_option maxRecDepth 100000 in
theorem each_walk (f : Nat → Int) (many : Int) (w : World) (hG : Glob [1, 2, 3] w) :
    Calls Tryd.prog 4 #[.agg (A7 f), .int .i64 many] w fun e w' => e = .returned (.bool true) ∧ Below w.heap.size w w' := by
  have hu23 := Tryd.underlying23
  have HG := Aside0.mk hG
  clear hG
  have hfn := func_nil
  refine (callsIn_wide (n := 9)).1 ?_
  refine callsIn_of_wp_marks Tryd.func4 rfl trivial ?_ rfl
  refine wpIn_wide.2 ?_
  simp only [Tryd.ntmps4, List.size_toArray, List.length_cons, List.length_nil, Nat.reduceAdd, Nat.reduceSub, Array.replicate_succ, Array.replicate_zero, List.push_toArray, List.append_toArray, List.nil_append, List.cons_append]
  go_wp2_with (first
    | ((with_reducible refine gate_dst (N := 2) rfl ?_); refine box_event ?hg (N := 2) ?hd (cs := A7 f) (t := 23) ?hr ?_; (case hd => rfl); (case hg => rfl); (case hr => first | (go_simp; done) | (go_simp; rfl)); intro ga hg_ wa_ hbox hb; have Ga := Aside0.mk (bsz (bl (Below.refl _ _)) hg_ : w.heap.size ≤ ga); have HB := Aside0.mk hb; have Ba := Aside0.mk hbox; clear hbox hb hg_)
    | ((with_reducible refine gate_dst (N := 4) rfl ?_); refine box_event ?hg (N := 4) ?hd (cs := #[.bool false]) (t := 4) ?hr ?_; (case hd => rfl); (case hg => rfl); (case hr => first | (go_simp; done) | (go_simp; rfl)); intro gr hg_ wr_ hbox hb; have Gr := Aside0.mk (bsz (bl HB.out) hg_ : w.heap.size ≤ gr); have Nar := Aside0.mk (nlt (kp Ba.out) hg_ : ga ≠ gr); have Nra := Aside0.mk (ngt (kp Ba.out) hg_ : gr ≠ ga); replace Ba := Aside0.mk (blk_below (kp Ba.out) hb); replace HB := Aside0.mk (below_step (bl HB.out) hb); have Br := Aside0.mk hbox; clear hbox hb hg_)
    | (go_at_call 9; (with_reducible refine (drachmlaw03_awake.calls true _ (Glob.use HG.out (by decide) (bl HB.out)) awake_val).mono ?_); rintro e w_ ⟨rfl, hb⟩; replace Ba := Aside0.mk (blk_below (kp Ba.out) hb); replace Br := Aside0.mk (blk_below (kp Br.out) hb); replace HB := Aside0.mk (below_step (bl HB.out) hb); obtain ⟨ca0_, ca1_, ca2_, ca3_, ca4_, ca5_, ca6_⟩ := hc7 Ba.out; clear hb)
    | (go_at_call 14; (with_reducible refine (each_new f _).mono ?_); rintro e w_ ⟨ge, rfl, hg_, hbox, hb⟩; have Ge := Aside0.mk (bsz (bl HB.out) hg_ : w.heap.size ≤ ge); have Nae := Aside0.mk (nlt (kp Ba.out) hg_ : ga ≠ ge); have Nea := Aside0.mk (ngt (kp Ba.out) hg_ : ge ≠ ga); have Nre := Aside0.mk (nlt (kp Br.out) hg_ : gr ≠ ge); have Ner := Aside0.mk (ngt (kp Br.out) hg_ : ge ≠ gr); replace Ba := Aside0.mk (blk_below (kp Ba.out) hb); replace Br := Aside0.mk (blk_below (kp Br.out) hb); replace HB := Aside0.mk (below_step (bl HB.out) hb); have Be := Aside0.mk hbox; clear ca0_ ca1_ ca2_ ca3_ ca4_ ca5_ ca6_; clear hbox hb hg_)
    | ((with_reducible refine gate_dst (N := 7) rfl ?_); refine box_event ?hg (N := 7) ?hd (cs := A7 fun _ => 0) (t := 23) ?hr ?_; (case hd => rfl); (case hg => rfl); (case hr => first | (go_simp; done) | (go_simp; rfl)); intro gb hg_ wb_ hbox hb; have Gb := Aside0.mk (bsz (bl HB.out) hg_ : w.heap.size ≤ gb); have Nab := Aside0.mk (nlt (kp Ba.out) hg_ : ga ≠ gb); have Nba := Aside0.mk (ngt (kp Ba.out) hg_ : gb ≠ ga); have Nrb := Aside0.mk (nlt (kp Br.out) hg_ : gr ≠ gb); have Nbr := Aside0.mk (ngt (kp Br.out) hg_ : gb ≠ gr); have Neb := Aside0.mk (nlt (kp Be.out) hg_ : ge ≠ gb); have Nbe := Aside0.mk (ngt (kp Be.out) hg_ : gb ≠ ge); replace Ba := Aside0.mk (blk_below (kp Ba.out) hb); replace Br := Aside0.mk (blk_below (kp Br.out) hb); replace Be := Aside0.mk (blk_below (kp Be.out) hb); replace HB := Aside0.mk (below_step (bl HB.out) hb); have Bb := Aside0.mk hbox; obtain ⟨cb0_, cb1_, cb2_, cb3_, cb4_, cb5_, cb6_⟩ := hc7 Bb.out; obtain ⟨fb0_, fb1_, fb2_, fb3_, fb4_, fb5_, fb6_⟩ := hf7 Bb.out; clear hbox hb hg_)
    | ((with_reducible refine gate_dst (N := 8) rfl ?_); refine box_event ?hg (N := 8) ?hd (cs := #[.int .i64 0]) (t := 3) ?hr ?_; (case hd => rfl); (case hg => rfl); (case hr => first | (go_simp; done) | (go_simp; rfl)); intro gl hg_ wl_ hbox hb; have Gl := Aside0.mk (bsz (bl HB.out) hg_ : w.heap.size ≤ gl); have Nal := Aside0.mk (nlt (kp Ba.out) hg_ : ga ≠ gl); have Nla := Aside0.mk (ngt (kp Ba.out) hg_ : gl ≠ ga); have Nrl := Aside0.mk (nlt (kp Br.out) hg_ : gr ≠ gl); have Nlr := Aside0.mk (ngt (kp Br.out) hg_ : gl ≠ gr); have Nel := Aside0.mk (nlt (kp Be.out) hg_ : ge ≠ gl); have Nle := Aside0.mk (ngt (kp Be.out) hg_ : gl ≠ ge); have Nbl := Aside0.mk (nlt (kp (p7_6 (kp (p7_5 (kp (p7_4 (kp (p7_3 (kp (p7_2 (kp (p7_1 (kp (p7_0 (kp Bb.out))))))))))))))) hg_ : gb ≠ gl); have Nlb := Aside0.mk (ngt (kp (p7_6 (kp (p7_5 (kp (p7_4 (kp (p7_3 (kp (p7_2 (kp (p7_1 (kp (p7_0 (kp Bb.out))))))))))))))) hg_ : gl ≠ gb); replace Ba := Aside0.mk (blk_below (kp Ba.out) hb); replace Br := Aside0.mk (blk_below (kp Br.out) hb); replace Be := Aside0.mk (blk_below (kp Be.out) hb); replace Bb := Aside0.mk (blk_below (kp (p7_6 (kp (p7_5 (kp (p7_4 (kp (p7_3 (kp (p7_2 (kp (p7_1 (kp (p7_0 (kp Bb.out))))))))))))))) hb); replace HB := Aside0.mk (below_step (bl HB.out) hb); have Bl := Aside0.mk hbox; have cl0_ := hc1 Bl.out; have fl0_ := blk_frozen Bl.out 0; clear cb0_ cb1_ cb2_ cb3_ cb4_ cb5_ cb6_ fb0_ fb1_ fb2_ fb3_ fb4_ fb5_ fb6_; clear hbox hb hg_)
    | ((with_reducible refine gate_dst (N := 9) rfl ?_); refine box_event ?hg (N := 9) ?hd (cs := #[.int .i64 0]) (t := 3) ?hr ?_; (case hd => rfl); (case hg => rfl); (case hr => first | (go_simp; done) | (go_simp; rfl)); intro gn hg_ wn_ hbox hb; have Gn := Aside0.mk (bsz (bl HB.out) hg_ : w.heap.size ≤ gn); have Nan := Aside0.mk (nlt (kp Ba.out) hg_ : ga ≠ gn); have Nna := Aside0.mk (ngt (kp Ba.out) hg_ : gn ≠ ga); have Nrn := Aside0.mk (nlt (kp Br.out) hg_ : gr ≠ gn); have Nnr := Aside0.mk (ngt (kp Br.out) hg_ : gn ≠ gr); have Nen := Aside0.mk (nlt (kp Be.out) hg_ : ge ≠ gn); have Nne := Aside0.mk (ngt (kp Be.out) hg_ : gn ≠ ge); have Nbn := Aside0.mk (nlt (kp Bb.out) hg_ : gb ≠ gn); have Nnb := Aside0.mk (ngt (kp Bb.out) hg_ : gn ≠ gb); have Nln := Aside0.mk (nlt (p1_0 (kp Bl.out)) hg_ : gl ≠ gn); have Nnl := Aside0.mk (ngt (p1_0 (kp Bl.out)) hg_ : gn ≠ gl); replace Ba := Aside0.mk (blk_below (kp Ba.out) hb); replace Br := Aside0.mk (blk_below (kp Br.out) hb); replace Be := Aside0.mk (blk_below (kp Be.out) hb); replace Bb := Aside0.mk (blk_below (kp Bb.out) hb); replace Bl := Aside0.mk (blk_below (p1_0 (kp Bl.out)) hb); replace HB := Aside0.mk (below_step (bl HB.out) hb); have Bn := Aside0.mk hbox; have cn0_ := hc1 Bn.out; have fn0_ := blk_frozen Bn.out 0; clear cl0_ fl0_; clear hbox hb hg_))
  have HL := Aside0.mk (show L1 f ga gr gb gl gn [] (wn_.setCell ⟨gn, 0, none⟩ (.int .i64 0)) from ⟨kp Ba.out, kp Br.out, kp Bb.out, kp Bl.out, p1_0 (kp Bn.out)⟩)
  have HE := Aside0.mk (show (wn_.setCell ⟨gn, 0, none⟩ (.int .i64 0)).heap[ge]? = some (.cells (seven (f 0) (f 1) (f 2) (f 3) (f 4) (f 5) (f 6)) 23 (0, 0)) from kp Be.out)
  have HB2 := Aside0.mk (show Below w.heap.size w (wn_.setCell ⟨gn, 0, none⟩ (.int .i64 0)) from bl HB.out)
  clear Ba Br Bb Bl Bn Be HB cn0_ fn0_
  generalize (wn_.setCell ⟨gn, 0, none⟩ (.int .i64 0)) = W1 at HL HE HB2 ⊢
  have hz1 := below_size HB2.out
  have hlt := blk_lt HE.out
  refine (wpIn_wide (n := 9)).1 ?_
  refine wpIn_rangeFunc_ownG rfl (by omega) (gf := 26) (lb := #[.pointer (some ⟨ge, 0, none⟩)]) rfl trivial (enters_of Tryd.func26 (by kernel_rfl) rfl)
    (each_stops2 Fence.wide 8 trivial rfl (by omega) ge w.heap.size (f 0) (f 1) (f 2) (f 3) (f 4) (f 5) (f 6) W1 hlt hz1 HE.out) belowK_t (belowK_b hz1) (Below.refl _ _) (fun _ => rfl)
    (fun pre W => L1 f ga gr gb gl gn (pre.map Subtype.val) W ∧ Below w.heap.size w W)
    (fun c pre W => c = .ret ∧ Bad (pre.map Subtype.val))
    (OwnFrom.and (Own.from (own_L1 f ga gr gb gl gn) _) (ownFrom_below (Nat.le_refl _) hz1))
    (fun c => fun _ _ _ _ hs _ _ => hs)
    ⟨HL.out, HB2.out⟩ ?a1 ?assign ?body ?done ?stop
  case assign =>
    intro l x W K hK
    gi_wp2
    exact hK
  case body =>
    rintro l pre y W ⟨hI, hB⟩ hlen
    have hm : (pre ++ [y]).map Subtype.val = pre.map Subtype.val ++ [y.1] := by rw [List.map_append]; rfl
    have hln : (pre.map Subtype.val).length < 7 := by rw [List.length_map]; exact hlen
    have hx7 := y.2.1
    clear HL HE HB2 hlen
    generalize pre.map Subtype.val = q at hI hm hln
    generalize y.1 = x at hm hx7 ⊢
    have HM := Aside0.mk hm
    clear hm
    have HI := Aside0.mk hI
    have HB := Aside0.mk hB
    clear hI hB
    have qbl := Nbl.out
    have qbn := Nbn.out
    have qbr := Nbr.out
    have qba := Nba.out
    have qlb := Nlb.out
    have qln := Nln.out
    have qlr := Nlr.out
    have qla := Nla.out
    have qnb := Nnb.out
    have qnl := Nnl.out
    have qnr := Nnr.out
    have qna := Nna.out
    have qrb := Nrb.out
    have qrl := Nrl.out
    have qrn := Nrn.out
    have qra := Nra.out
    have qab := Nab.out
    have qal := Nal.out
    have qan := Nan.out
    have qar := Nar.out
    have cl_ := hc1 HI.out.l
    have fl_ := blk_frozen HI.out.l 0
    have cb_ := get7n HI.out.b x.1 hx7
    have fb_ := blk_frozen HI.out.b x.1
    have cn_ := hc1 HI.out.n
    have fn_ := blk_frozen HI.out.n 0
    have cr_ := hc1 HI.out.r
    have fr_ := blk_frozen HI.out.r 0
    have hs : setAll (q ++ [x]) (fun _ => 0) = upd (setAll q fun _ => 0) x.1 x.2 := by unfold setAll; rw [List.foldl_append]; rfl
    have HS := Aside0.mk hs
    clear hs
    by_cases h1 : (x.1 : Int) ≤ lastOf q
    · gi_wp2
      exact ⟨(KeepsOthers.setCell _ _ _).from _, rfl, by rw [HM.out]; exact ⟨q, x, rfl, fun h => absurd h.1 (by omega)⟩⟩
    · have h6 : ¬ (x.1 : Int) > 6 := by omega
      by_cases h2 : x.2 = 0
      · gi_wp2
        exact ⟨(KeepsOthers.setCell _ _ _).from _, rfl, by rw [HM.out]; exact ⟨q, x, rfl, fun h => h.2 h2⟩⟩
      · gi_wp2
        refine ⟨(((KeepsOthers.setCell _ _ _).from _).trans ((KeepsOthers.setCell _ _ _).from _)).trans ((KeepsOthers.setCell _ _ _).from _), (((Below.refl _ W).setCell (p := ⟨gb, x.1, none⟩) Gb.out _).setCell (p := ⟨gl, 0, none⟩) Gl.out _).setCell (p := ⟨gn, 0, none⟩) Gn.out _, ?_, bl HB.out⟩
        rw [HM.out]
        refine ⟨kp HI.out.a, kp HI.out.r, ?_, ?_, ?_⟩
        · rw [HS.out]; exact kp (put7n (kp HI.out.b) x.1 x.2 hx7)
        · rw [lastOf_snoc]; exact kp (p1_0 (kp HI.out.l))
        · rw [List.length_append]; exact p1_0 (kp HI.out.n)
  case done =>
    rintro gD ys W hD hS ⟨hI, hB⟩ hK
    rw [hS] at hI
    obtain ⟨h1, h2, h3, h4⟩ := hI
    rw [setAll_nz] at h3
    have Ba := Aside0.mk h1; have Br := Aside0.mk h2; have Bb := Aside0.mk h3; have Bn := Aside0.mk ‹W.heap[gn]? = _›
    have BD := Aside0.mk hK; have HB := Aside0.mk hB
    have GD := Aside0.mk (Nat.le_trans hz1 hD)
    have NDa := Aside0.mk (ne_of_cells BD.out Ba.out (by intro h; cases h)); have NaD := Aside0.mk (ne_of_cells BD.out Ba.out (by intro h; cases h)).symm
    have NDr := Aside0.mk (ne_of_cells BD.out Br.out (by intro h; cases h)); have NrD := Aside0.mk (ne_of_cells BD.out Br.out (by intro h; cases h)).symm
    have NDb := Aside0.mk (ne_of_cells BD.out Bb.out (by intro h; cases h)); have NbD := Aside0.mk (ne_of_cells BD.out Bb.out (by intro h; cases h)).symm
    have NDn := Aside0.mk (ne_of_cells BD.out Bn.out (by intro h; cases h)); have NnD := Aside0.mk (ne_of_cells BD.out Bn.out (by intro h; cases h)).symm
    clear h1 h2 h3 h4 hB hK HL HE HB2 hS hlt hD
    have hr9 := tm_range 8 many (by decide)
    have hm2 := Int.tmod_lt_of_pos (tm 8 many + 9) (show (0 : Int) < 9 by decide)
    have hm3 := Int.tmod_nonneg (9 : Int) (show 0 ≤ tm 8 many + 9 by omega)
    obtain ⟨k, hk⟩ : ∃ k : Nat, Int.tmod (tm 8 many + 9) 9 = (k : Int) := ⟨(Int.tmod (tm 8 many + 9) 9).toNat, by omega⟩
    have hw : Int.tmod (wrap64 (Int.tmod many 9 + 9)) 9 = (k : Int) := by rw [show Int.tmod many 9 = tm 8 many from rfl, Di.wrap_small _ (by omega) (by omega), hk]
    clear hk hm2 hm3 hr9
    go_wp2_with (first
      | ((with_reducible refine gate_dst (N := 12) rfl ?_); refine box_event ?hg (N := 12) ?hd (cs := #[.int .i64 0]) (t := 3) ?hr ?_; (case hd => rfl); (case hg => rfl); (case hr => first | (go_simp; done) | (go_simp; rfl)); intro gk hg_ wk_ hbox hb; have Gk := Aside0.mk (bsz (bl HB.out) hg_ : w.heap.size ≤ gk); have NDk := Aside0.mk (nlt (kp BD.out) hg_ : gD ≠ gk); have NkD := Aside0.mk (ngt (kp BD.out) hg_ : gk ≠ gD); have Nak := Aside0.mk (nlt (kp Ba.out) hg_ : ga ≠ gk); have Nka := Aside0.mk (ngt (kp Ba.out) hg_ : gk ≠ ga); have Nrk := Aside0.mk (nlt (kp Br.out) hg_ : gr ≠ gk); have Nkr := Aside0.mk (ngt (kp Br.out) hg_ : gk ≠ gr); have Nbk := Aside0.mk (nlt (kp Bb.out) hg_ : gb ≠ gk); have Nkb := Aside0.mk (ngt (kp Bb.out) hg_ : gk ≠ gb); have Nnk := Aside0.mk (nlt (kp Bn.out) hg_ : gn ≠ gk); have Nkn := Aside0.mk (ngt (kp Bn.out) hg_ : gk ≠ gn); replace BD := Aside0.mk (blk_below (kp BD.out) hb); replace Ba := Aside0.mk (blk_below (kp Ba.out) hb); replace Br := Aside0.mk (blk_below (kp Br.out) hb); replace Bb := Aside0.mk (blk_below (kp Bb.out) hb); replace Bn := Aside0.mk (blk_below (kp Bn.out) hb); replace HB := Aside0.mk (below_step (bl HB.out) hb); have Bk := Aside0.mk hbox; have ck0_ := hc1 Bk.out; have fk0_ := blk_frozen Bk.out 0; clear hbox hb hg_)
      | ((with_reducible refine gate_dst (N := 13) rfl ?_); refine box_event ?hg (N := 13) ?hd (cs := #[.int .i64 0]) (t := 3) ?hr ?_; (case hd => rfl); (case hg => rfl); (case hr => first | (go_simp; done) | (go_simp; rfl)); intro gg hg_ wg_ hbox hb; have Gg := Aside0.mk (bsz (bl HB.out) hg_ : w.heap.size ≤ gg); have NDg := Aside0.mk (nlt (kp BD.out) hg_ : gD ≠ gg); have NgD := Aside0.mk (ngt (kp BD.out) hg_ : gg ≠ gD); have Nag := Aside0.mk (nlt (kp Ba.out) hg_ : ga ≠ gg); have Nga := Aside0.mk (ngt (kp Ba.out) hg_ : gg ≠ ga); have Nrg := Aside0.mk (nlt (kp Br.out) hg_ : gr ≠ gg); have Ngr := Aside0.mk (ngt (kp Br.out) hg_ : gg ≠ gr); have Nbg := Aside0.mk (nlt (kp Bb.out) hg_ : gb ≠ gg); have Ngb := Aside0.mk (ngt (kp Bb.out) hg_ : gg ≠ gb); have Nng := Aside0.mk (nlt (kp Bn.out) hg_ : gn ≠ gg); have Ngn := Aside0.mk (ngt (kp Bn.out) hg_ : gg ≠ gn); have Nkg := Aside0.mk (nlt (p1_0 (kp Bk.out)) hg_ : gk ≠ gg); have Ngk := Aside0.mk (ngt (p1_0 (kp Bk.out)) hg_ : gg ≠ gk); replace BD := Aside0.mk (blk_below (kp BD.out) hb); replace Ba := Aside0.mk (blk_below (kp Ba.out) hb); replace Br := Aside0.mk (blk_below (kp Br.out) hb); replace Bb := Aside0.mk (blk_below (kp Bb.out) hb); replace Bn := Aside0.mk (blk_below (kp Bn.out) hb); replace Bk := Aside0.mk (blk_below (p1_0 (kp Bk.out)) hb); replace HB := Aside0.mk (below_step (bl HB.out) hb); have Bg := Aside0.mk hbox; have cg0_ := hc1 Bg.out; have fg0_ := blk_frozen Bg.out 0; clear ck0_ fk0_; have qag := Nag.out; have qga := Nga.out; obtain ⟨ca0_, ca1_, ca2_, ca3_, ca4_, ca5_, ca6_⟩ := hc7 Ba.out; clear hbox hb hg_)
      | (go_at_call 14; (with_reducible refine (each_new f _).mono ?_); rintro e w_ ⟨gv, rfl, hg_, hbox, hb⟩; have Gv := Aside0.mk (bsz (bl HB.out) hg_ : w.heap.size ≤ gv); have NDv := Aside0.mk (nlt (kp BD.out) hg_ : gD ≠ gv); have NvD := Aside0.mk (ngt (kp BD.out) hg_ : gv ≠ gD); have Nav := Aside0.mk (nlt (kp Ba.out) hg_ : ga ≠ gv); have Nva := Aside0.mk (ngt (kp Ba.out) hg_ : gv ≠ ga); have Nrv := Aside0.mk (nlt (kp Br.out) hg_ : gr ≠ gv); have Nvr := Aside0.mk (ngt (kp Br.out) hg_ : gv ≠ gr); have Nbv := Aside0.mk (nlt (kp Bb.out) hg_ : gb ≠ gv); have Nvb := Aside0.mk (ngt (kp Bb.out) hg_ : gv ≠ gb); have Nnv := Aside0.mk (nlt (kp Bn.out) hg_ : gn ≠ gv); have Nvn := Aside0.mk (ngt (kp Bn.out) hg_ : gv ≠ gn); have Nkv := Aside0.mk (nlt (kp Bk.out) hg_ : gk ≠ gv); have Nvk := Aside0.mk (ngt (kp Bk.out) hg_ : gv ≠ gk); have Ngv := Aside0.mk (nlt (p1_0 (kp Bg.out)) hg_ : gg ≠ gv); have Nvg := Aside0.mk (ngt (p1_0 (kp Bg.out)) hg_ : gv ≠ gg); replace BD := Aside0.mk (blk_below (kp BD.out) hb); replace Ba := Aside0.mk (blk_below (kp Ba.out) hb); replace Br := Aside0.mk (blk_below (kp Br.out) hb); replace Bb := Aside0.mk (blk_below (kp Bb.out) hb); replace Bn := Aside0.mk (blk_below (kp Bn.out) hb); replace Bk := Aside0.mk (blk_below (kp Bk.out) hb); replace Bg := Aside0.mk (blk_below (p1_0 (kp Bg.out)) hb); replace HB := Aside0.mk (below_step (bl HB.out) hb); have Bv := Aside0.mk hbox; replace Bg := Bg; clear hbox hb hg_))
    have HL := Aside0.mk (show L2 f ga gr gb gn gk gg k 0 w_ from ⟨Ba.out, Br.out, Bb.out, Bn.out, Bk.out, Bg.out⟩)
    have hz2 := below_size HB.out
    have hltv := blk_lt Bv.out
    have hltD := blk_lt BD.out
    have BE := Aside0.mk (show w_.heap[gv]? = some (.cells (seven (f 0) (f 1) (f 2) (f 3) (f 4) (f 5) (f 6)) 23 (0, 0)) from Bv.out)
    refine (wpIn_wide (n := 9)).1 ?_
    refine wpIn_rangeFunc_ownG rfl (by omega) (gf := 26) (lb := #[.pointer (some ⟨gv, 0, none⟩)]) rfl trivial (enters_of Tryd.func26 (by kernel_rfl) rfl)
      (each_stops2 Fence.wide 8 trivial rfl (by omega) gv w.heap.size (f 0) (f 1) (f 2) (f 3) (f 4) (f 5) (f 6) w_ hltv hz2 BE.out) belowK_t (belowK_b hz2) (Below.refl _ _) (fun _ => rfl)
      (fun pre W => (L2 f ga gr gb gn gk gg k pre.length W ∧ pre.length ≤ k ∧ W.heap[gD]? = some (.deferred (some []))) ∧ Below w.heap.size w W)
      (fun c pre W => (c = .exit 2 ∧ pre.length = k + 1 ∧ L2 f ga gr gb gn gk gg k k W ∧ W.heap[gD]? = some (.deferred (some []))) ∧ Below w.heap.size w W)
      (OwnFrom.and (own_I2 f ga gr gb gn gk gg gD k _ hltD) (ownFrom_below (Nat.le_refl _) hz2))
      (fun c => OwnFrom.and (own_X2 f ga gr gb gn gk gg gD k _ hltD c) (ownFrom_below (Nat.le_refl _) hz2))
      ⟨⟨HL.out, Nat.zero_le _, BD.out⟩, HB.out⟩ ?a2 ?assign2 ?body2 ?done2 ?stop2
    case assign2 =>
      intro l x W K hK
      gi_wp2
      exact hK
    case body2 =>
      rintro l pre y W ⟨⟨hI, hle, hKD⟩, hB⟩ hlen
      have hx7 := y.2.1
      have hv : f y.1.1 = y.1.2 := (L7_at f _ hx7).symm.trans y.2.2
      have HI := Aside0.mk hI
      have HKD := Aside0.mk hKD
      clear HL BD Ba Br Bb Bn Bk Bg Bv BE HB hI hKD
      have HB := Aside0.mk hB
      clear hB
      have ck_ := hc1 HI.out.k
      have cg_ := hc1 HI.out.g
      have fg_ := blk_frozen HI.out.g 0
      have ca_ := get7n HI.out.a y.1.1 hx7
      rw [hv] at ca_
      clear hv
      generalize y.1 = x at ca_ hx7 ⊢
      have qag := Nag.out
      have qrg := Nrg.out
      have qbg := Nbg.out
      have qng := Nng.out
      have qkg := Nkg.out
      have qga := Nga.out
      have qgr := Ngr.out
      have qgb := Ngb.out
      have qgn := Ngn.out
      have qgk := Ngk.out
      have qgD := NgD.out
      have qDg := NDg.out
      by_cases hk : pre.length = k
      · have hkk : ((pre.length : Nat) : Int) = (k : Int) := by rw [hk]
        gi_wp2
        exact ⟨KeepsFrom.refl _ _, ⟨rfl, by rw [List.length_append, hk]; rfl, by have h_ := HI.out; rw [hk] at h_; exact h_, HKD.out⟩, HB.out⟩
      · have hkk : ¬ ((pre.length : Nat) : Int) = (k : Int) := by omega
        gi_wp2
        refine ⟨(KeepsOthers.setCell _ _ _).from _, (Below.refl _ W).setCell (p := ⟨gg, 0, none⟩) Gg.out _, ⟨⟨kp HI.out.a, kp HI.out.r, kp HI.out.b, kp HI.out.n, kp HI.out.k, ?_⟩, ?_, kp HKD.out⟩, bl HB.out⟩
        · rw [List.length_append]; exact p1_0 (kp HI.out.g)
        · rw [List.length_append]; show pre.length + 1 ≤ k; omega
    case done2 =>
      rintro D2 zs W hD2 hS ⟨⟨hI, hle, hKD⟩, hB⟩ hK
      have hln : zs.length = (nz (L7 f) 7).length := by rw [← hS, List.length_map]
      rw [hln] at hI hle
      have HI := Aside0.mk hI
      have HKD := Aside0.mk hKD
      have HKE := Aside0.mk hK
      clear HL BD Ba Br Bb Bn Bk Bg Bv BE hI hKD hK
      have HB := Aside0.mk hB
      clear hB
      have hbf : W.heap[gb]? = some (.cells (A7 f) 23 (0, 0)) := HI.out.b
      obtain ⟨d0_, d1_, d2_, d3_, d4_, d5_, d6_⟩ := hc7 hbf
      clear hbf
      have heq7 : ∀ W : World, (Op.equalIn 10000 23 (.agg (A7 f)) (.agg (A7 f))).run Tryd.prog W = .ok true W := fun W => (eqA7 9998 W (f 0) (f 0) (f 1) (f 1) (f 2) (f 2) (f 3) (f 3) (f 4) (f 4) (f 5) (f 5) (f 6) (f 6)).trans (by simp)
      obtain ⟨e0_, e1_, e2_, e3_, e4_, e5_, e6_⟩ := hc7 HI.out.a
      have cn_ := hc1 HI.out.n
      have ck_ := hc1 HI.out.k
      have cg_ := hc1 HI.out.g
      have cr_ := hc1 HI.out.r
      have fr_ := blk_frozen HI.out.r 0
      go_wp2
      all_goals (try (exfalso; omega))
      all_goals (try rw [show ((((nz (L7 f) 7).length : Nat) : Int) == ((k : Nat) : Int)) = true from beq_iff_eq.2 (by omega)])
      all_goals (
        have NE2 := Aside0.mk (ne_of_cells HKE.out HI.out.r (by intro h; cases h))
        have hK2 : (W.setCell ⟨gr, 0, none⟩ (.bool true)).heap[D2]? = some (.deferred (some [])) := kp HKE.out
        have hKD : (W.setCell ⟨gr, 0, none⟩ (.bool true)).heap[gD]? = some (.deferred (some [])) := kp HKD.out
        have hKR : (W.setCell ⟨gr, 0, none⟩ (.bool true)).heap[gr]? = some (.cells #[.bool true] 4 (0, 0)) := p1_0 HI.out.r
        have hBB : Below w.heap.size w (W.setCell ⟨gr, 0, none⟩ (.bool true)) := bl HB.out
        have g1 := grownBy_putObj' (W.setCell ⟨gr, 0, none⟩ (.bool true)) D2 (.deferred none)
        have hKD3 := (g1.block gD (blk_lt hKD) (fun e => by cases e; omega)).trans hKD
        have hKR3 := row_kept hKR g1 (fun r e => by cases e; exact ⟨_, hK2, rfl⟩)
        have hBB3 := hBB.trans (belowK_b (w := w) (Nat.le_refl _) _ D2 _ (.deferred none) (by omega) hK2 rfl rfl)
        have g2 := grownBy_putObj' ((W.setCell ⟨gr, 0, none⟩ (.bool true)).putObj D2 (.deferred none)) gD (.deferred none)
        have hKR4 := hc1 (row_kept hKR3 g2 (fun r e => by cases e; exact ⟨_, hKD3, rfl⟩))
        have hBB4 := hBB3.trans (belowK_b (w := w) (Nat.le_refl _) _ gD _ (.deferred none) GD.out hKD3 rfl rfl)
        refine ⟨by simp, .inl ⟨_, _, rfl, run_takeDeferred hK2, ?_⟩⟩
        refine ⟨by simp, .inl ⟨_, _, rfl, run_takeDeferred hKD3, ?_⟩⟩
        refine ⟨.bool true, ?_, rfl, hBB4⟩
        simp [results, Tryd.f4, go_sem, hKR4])
    case stop2 =>
      rintro D2 c pre W hD2 ⟨j, hj, hS⟩ ⟨⟨rfl, hl, hI, hKD⟩, hB⟩ hK
      have hln : k < (nz (L7 f) 7).length := by
        have h_ : k + 1 = (nz (L7 f) j).length := by
          have h1_ := congrArg List.length hS
          rw [List.length_map, hl] at h1_
          exact h1_
        obtain ⟨r_, hr_⟩ := nz_pre (L7 f) j (7 - j)
        rw [show j + (7 - j) = 7 from by omega] at hr_
        rw [hr_, List.length_append]
        omega
      have HI := Aside0.mk hI
      have HKD := Aside0.mk hKD
      have HKE := Aside0.mk hK
      clear HL BD Ba Br Bb Bn Bk Bg Bv BE hI hKD hK
      have HB := Aside0.mk hB
      clear hB
      have hbf : W.heap[gb]? = some (.cells (A7 f) 23 (0, 0)) := HI.out.b
      obtain ⟨d0_, d1_, d2_, d3_, d4_, d5_, d6_⟩ := hc7 hbf
      clear hbf
      have heq7 : ∀ W : World, (Op.equalIn 10000 23 (.agg (A7 f)) (.agg (A7 f))).run Tryd.prog W = .ok true W := fun W => (eqA7 9998 W (f 0) (f 0) (f 1) (f 1) (f 2) (f 2) (f 3) (f 3) (f 4) (f 4) (f 5) (f 5) (f 6) (f 6)).trans (by simp)
      obtain ⟨e0_, e1_, e2_, e3_, e4_, e5_, e6_⟩ := hc7 HI.out.a
      have cn_ := hc1 HI.out.n
      have ck_ := hc1 HI.out.k
      have cg_ := hc1 HI.out.g
      have cr_ := hc1 HI.out.r
      have fr_ := blk_frozen HI.out.r 0
      gi_wp2
      go_wp2
      all_goals (try (exfalso; omega))
      all_goals (try rw [show ((((nz (L7 f) 7).length : Nat) : Int) == ((k : Nat) : Int)) = true from beq_iff_eq.2 (by omega)])
      all_goals (
        have NE2 := Aside0.mk (ne_of_cells HKE.out HI.out.r (by intro h; cases h))
        have hK2 : (W.setCell ⟨gr, 0, none⟩ (.bool true)).heap[D2]? = some (.deferred (some [])) := kp HKE.out
        have hKD : (W.setCell ⟨gr, 0, none⟩ (.bool true)).heap[gD]? = some (.deferred (some [])) := kp HKD.out
        have hKR : (W.setCell ⟨gr, 0, none⟩ (.bool true)).heap[gr]? = some (.cells #[.bool true] 4 (0, 0)) := p1_0 HI.out.r
        have hBB : Below w.heap.size w (W.setCell ⟨gr, 0, none⟩ (.bool true)) := bl HB.out
        have g1 := grownBy_putObj' (W.setCell ⟨gr, 0, none⟩ (.bool true)) D2 (.deferred none)
        have hKD3 := (g1.block gD (blk_lt hKD) (fun e => by cases e; omega)).trans hKD
        have hKR3 := row_kept hKR g1 (fun r e => by cases e; exact ⟨_, hK2, rfl⟩)
        have hBB3 := hBB.trans (belowK_b (w := w) (Nat.le_refl _) _ D2 _ (.deferred none) (by omega) hK2 rfl rfl)
        have g2 := grownBy_putObj' ((W.setCell ⟨gr, 0, none⟩ (.bool true)).putObj D2 (.deferred none)) gD (.deferred none)
        have hKR4 := hc1 (row_kept hKR3 g2 (fun r e => by cases e; exact ⟨_, hKD3, rfl⟩))
        have hBB4 := hBB3.trans (belowK_b (w := w) (Nat.le_refl _) _ gD _ (.deferred none) GD.out hKD3 rfl rfl)
        refine ⟨by simp, .inl ⟨_, _, rfl, run_takeDeferred hK2, ?_⟩⟩
        refine ⟨by simp, .inl ⟨_, _, rfl, run_takeDeferred hKD3, ?_⟩⟩
        refine ⟨.bool true, ?_, rfl, hBB4⟩
        simp [results, Tryd.f4, go_sem, hKR4])
  case stop =>
    rintro D c pre W hD ⟨j, hj, hS⟩ ⟨rfl, q, x, hq, hbad⟩ hK
    exact absurd (nz_good f j hj q x (hS.symm.trans hq)) hbad
end Go.Proofs.YtclpbnfcajbmkaaDoor.Di
