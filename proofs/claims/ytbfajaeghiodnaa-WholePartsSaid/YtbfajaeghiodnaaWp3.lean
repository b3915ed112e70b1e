/- WholeParts: for any number and any count the law's function answers true. Its conditions: whole numbers of 64 bits. -/
import Derived.Test.YtbfajaeghiodnaaWp2
namespace Go.Proofs.Ytbfajaeghiodnaa.Di
open Go Go.RowKit Go.Shelf Go.Proofs Go.Proofs.Ytbfajaeghiodnaa Go.Proofs.Ytbfajaeghiodnaa.PR Go.Proofs.Ytbfajaeghiodnaa.PBase Go.Proofs.Ytbfajaeghiodnaa.Sq Go.Proofs.YtbfajaeghiodnaaW.PrintWords Go.Proofs.YtbfajaeghiodnaaW.PrintLast Go.Proofs.YtbfajaeghiodnaaW.PrintMore
attribute [local go_sem] max2_int min2_int max_two min_two max_three min_three max_four min_four   -- for this text's walks alone
attribute [local go_sem] Oper.semAt_some
set_option linter.unusedVariables false
set_option linter.unusedSimpArgs false
theorem row_kept {X Y : World} {g : Nat} {cs : Array Value} {t : TypeId} {fr : Nat × Nat} {row : Option Nat} (h : X.heap[g]? = some (.cells cs t fr)) (hg : X.grownBy Y row) (hr : ∀ r, row = some r → ∃ o : Obj, X.heap[r]? = some o ∧ o.isCells = false) : Y.heap[g]? = some (.cells cs t fr) :=
  (hg.block g (blk_lt h) (fun e1 => by
    obtain ⟨o, ho, hc⟩ := hr g e1.symm
    rw [h] at ho; cases ho; cases hc)).trans h
theorem ne_of_cells {W : World} {g h : Nat} {o p : Obj} (a : W.heap[g]? = some o) (b : W.heap[h]? = some p) (e : o.isCells = p.isCells → False) : g ≠ h := by
  rintro rfl
  rw [a] at b
  cases b
  exact e rfl
/-- A row of records under a step that turns what is no cells. -/
theorem R_kept {X Y : World} {base : Nat} {ok : Nat → Prop} {v : Value} {xs : List S39} {row : Option Nat} (h : Kd.R k39 39 X base ok v xs) (hg : X.grownBy Y row) (hr : ∀ r, row = some r → ∃ o : Obj, X.heap[r]? = some o ∧ o.isCells = false) : Kd.R k39 39 Y base ok v xs :=
  Kd.R_mono (Kd.R_grown (Kd.R_bound h) hg (fun k hk e => by
    obtain ⟨_, _, _, q, _, cells, hc⟩ := hk
    obtain ⟨o, ho, hn⟩ := hr k e.symm
    rw [hc] at ho
    cases ho
    cases hn)) (fun _ hk => hk.1)
theorem pre_snoc {full pre : List S39} {y : S39} (hp : pre <+: full) (hl : pre.length < full.length) : pre ++ [y] <+: full ↔ y = rd_T39 full (pre.length : Int) := by
  obtain ⟨r, rfl⟩ := hp
  have e : rd_T39 (pre ++ r) (pre.length : Int) = r.headD z39 := by
    unfold rd_T39
    rw [Int.toNat_natCast, List.getD_eq_getElem?_getD, List.getElem?_append_right (Nat.le_refl _), Nat.sub_self]
    cases r <;> rfl
  rw [e, List.prefix_append_right_inj]
  cases r with
  | nil => rw [List.append_nil] at hl; omega
  | cons a r =>
    constructor
    · rintro ⟨t, ht⟩
      simp only [List.cons_append, List.nil_append, List.cons.injEq] at ht
      exact ht.1
    · rintro rfl
      exact ⟨r, rfl⟩
theorem S39_ext {y z : S39} (h0 : y.f0 = z.f0) (h1 : y.f1 = z.f1) : y = z := by
  obtain ⟨a, b⟩ := y
  obtain ⟨c, d⟩ := z
  simp only at h0 h1
  subst h0 h1
  rfl
theorem func_nil (lb : Array Value) (W : World) : (binOp BinOp.eql 36 (Value.func (Fn.func 29) #[] lb) Value.nilFunc).run Try.prog W = .ok (.bool false) W := by
  have h := Try.underlying36
  first
    | rfl
    | kernel_rfl
    | (simp [binOp, Op.equal, Op.equalIn, run_underlying h]; done)
/-- What the first loop keeps: the answer, the document's row, how many were taken. -/
structure M1 (L : List S39) (gr gw gi : Nat) (A : Option Addr) (c base m : Nat) (W : World) : Prop where
  r : W.heap[gr]? = some (.cells #[.bool false] 4 (0, 0))
  w : W.heap[gw]? = some (.cells #[.slice A L.length c] 33 (0, 0))
  i : W.heap[gi]? = some (.cells #[.int .i64 (m : Int)] 3 (0, 0))
  R : Kd.R k39 39 W base (fun _ => True) (.slice A L.length c) L
theorem M1.kept {L : List S39} {gr gw gi : Nat} {A : Option Addr} {c base m : Nat} {X Y : World} {row : Option Nat} (h : M1 L gr gw gi A c base m X) (hg : X.grownBy Y row) (hr : ∀ r, row = some r → ∃ o : Obj, X.heap[r]? = some o ∧ o.isCells = false) : M1 L gr gw gi A c base m Y :=
  ⟨row_kept h.r hg hr, row_kept h.w hg hr, row_kept h.i hg hr, R_kept h.R hg hr⟩
theorem own_M1 (L : List S39) (gr gw gi : Nat) (A : Option Addr) (c base : Nat) : Own (fun (pre : List S39) W => M1 L gr gw gi A c base pre.length W ∧ pre <+: L) := fun s _ Y row hs hg hr => ⟨M1.kept hs.1 hg hr, hs.2⟩
/-- What the second loop keeps. -/
structure M2 (L : List S39) (gr gw gk gg : Nat) (A : Option Addr) (c base : Nat) (k : Int) (m : Nat) (W : World) : Prop where
  r : W.heap[gr]? = some (.cells #[.bool false] 4 (0, 0))
  w : W.heap[gw]? = some (.cells #[.slice A L.length c] 33 (0, 0))
  k : W.heap[gk]? = some (.cells #[.int .i64 k] 3 (0, 0))
  g : W.heap[gg]? = some (.cells #[.int .i64 (m : Int)] 3 (0, 0))
  R : Kd.R k39 39 W base (fun _ => True) (.slice A L.length c) L
theorem M2.kept {L : List S39} {gr gw gk gg : Nat} {A : Option Addr} {c base m : Nat} {k : Int} {X Y : World} {row : Option Nat} (h : M2 L gr gw gk gg A c base k m X) (hg : X.grownBy Y row) (hr : ∀ r, row = some r → ∃ o : Obj, X.heap[r]? = some o ∧ o.isCells = false) : M2 L gr gw gk gg A c base k m Y :=
  ⟨row_kept h.r hg hr, row_kept h.w hg hr, row_kept h.k hg hr, row_kept h.g hg hr, R_kept h.R hg hr⟩
theorem own_I2 (L : List S39) (gr gw gk gg : Nat) (A : Option Addr) (c base gD k B : Nat) (hD : gD < B) : OwnFrom B (fun (pre : List S39) W => M2 L gr gw gk gg A c base k pre.length W ∧ pre.length ≤ k ∧ pre <+: L ∧ W.heap[gD]? = some (.deferred (some []))) :=
  fun s _ Y row hs hg hr => ⟨M2.kept hs.1 hg (fun r e => (hr r e).2), hs.2.1, hs.2.2.1, (hg.block gD (blk_lt hs.2.2.2) (fun e => by have := (hr gD e.symm).1; omega)).trans hs.2.2.2⟩
theorem own_X2 (L : List S39) (gr gw gk gg : Nat) (A : Option Addr) (c base gD k B : Nat) (hD : gD < B) (cc : Code) : OwnFrom B (fun (pre : List S39) W => (cc = .exit 2 ∧ pre.length = k + 1 ∧ M2 L gr gw gk gg A c base k k W ∧ W.heap[gD]? = some (.deferred (some []))) ∨ (cc = .ret ∧ ¬ pre <+: L)) :=
  fun s _ Y row hs hg hr => hs.elim (fun h => .inl ⟨h.1, h.2.1, M2.kept h.2.2.1 hg (fun r e => (hr r e).2), (hg.block gD (blk_lt h.2.2.2) (fun e => by have := (hr gD e.symm).1; omega)).trans h.2.2.2⟩) (fun h => .inr h)
set_option maxHeartbeats 8000000 in
set_option maxRecDepth 100000 in
theorem parts_walk (a0 many : Int) (ha0 : -9223372036854775808 ≤ a0) (ha1 : a0 ≤ 9223372036854775807) (w : World) :
    Calls Try.prog 9 #[.int .i64 a0, .int .i64 many] w fun e w' => e = .returned (.bool true) ∧ Below w.heap.size w w' := by
  have hfn := func_nil
  obtain ⟨K0, hK0⟩ := awake_ev
  have HA := Aside0.mk (hK0 K0 (Nat.le_refl _))
  clear hK0
  refine (callsIn_wide (n := 9)).1 ?_
  refine callsIn_of_wp_marks Try.func9 rfl trivial ?_ rfl
  refine (wpIn_wide (n := 9)).2 ?_
  simp only [Try.ntmps9, List.size_toArray, List.length_cons, List.length_nil, Nat.reduceAdd, Nat.reduceSub, Array.replicate_succ, Array.replicate_zero, List.push_toArray, List.append_toArray, List.nil_append, List.cons_append]
  go_upto_region 3 with (first
    | ((with_reducible refine gate_dst (N := 4) rfl ?_); refine box_event ?hg (N := 4) ?hd (cs := #[.bool false]) (t := 4) ?hr ?_; (case hd => rfl); (case hg => rfl); (case hr => first | (go_simp; done) | (go_simp; rfl)); intro gr hg_ wr_ hbox hb; have Gr := Aside0.mk (bsz (bl (Below.refl _ _)) hg_ : w.heap.size ≤ gr); have HB := Aside0.mk hb; have Br := Aside0.mk hbox; clear hbox hb hg_)
    | (go_at_call 10; (with_reducible refine (drachmlaw01_awake.calls K0 true _ HA.out).mono ?_); rintro e w_ ⟨rfl, hb⟩; replace Br := Aside0.mk (blk_below (kp Br.out) hb); replace HB := Aside0.mk (below_step (bl HB.out) hb); clear hb))
  have hx : -1099511627776 ≤ a0 / 1099511627776 ∧ a0 / 1099511627776 ≤ 1099511627776 := by omega
  generalize a0 / 1099511627776 = x at hx ⊢
  obtain ⟨K1, hK1⟩ := refPartsN x hx
  have HSEQ := Aside0.mk (fun (Bs : Nat) (W : World) (h1 : Bs < W.heap.size) (h2 : W.heap[Bs]? = some (.cells #[.int .i64 x] 2 (0, 0))) => parts_stops 8 (by omega) Bs w.heap.size x hx W h1 h2)
  have hP := hK1 K1 (Nat.le_refl _)
  clear hK1
  generalize plN x = L at HSEQ hP
  have HP := Aside0.mk hP
  clear hP
  go_wp2_with (first
    | (go_at_call 16; (with_reducible refine (drachmref01_Parts.calls K1 x L _ HP.out).mono ?_); rintro e w_ ⟨v0, rfl, hR, hb⟩; obtain ⟨A, c, rfl⟩ := Kd.R_slice hR; obtain ⟨base, HR⟩ : ∃ base, Aside0 (Kd.R k39 39 w_ base (fun _ => True) (.slice A L.length c) L) := ⟨_, ⟨hR⟩⟩; replace Br := Aside0.mk (blk_below (kp Br.out) hb); replace HB := Aside0.mk (below_step (bl HB.out) hb); clear hb hR HP)
    | ((with_reducible refine gate_dst (N := 7) rfl ?_); refine box_event ?hg (N := 7) ?hd (cs := #[.slice none 0 0]) (t := 33) ?hr ?_; (case hd => rfl); (case hg => rfl); (case hr => first | (go_simp; done) | (go_simp; rfl)); intro gw hg_ ww_ hbox hb; have Gw := Aside0.mk (bsz (bl HB.out) hg_ : w.heap.size ≤ gw); have Nrw := Aside0.mk (nlt (kp Br.out) hg_ : gr ≠ gw); have Nwr := Aside0.mk (ngt (kp Br.out) hg_ : gw ≠ gr); replace HR := Aside0.mk (Kd.R_below (HR.out) hb); replace Br := Aside0.mk (blk_below (kp Br.out) hb); replace HB := Aside0.mk (below_step (bl HB.out) hb); have Bw := Aside0.mk hbox; have cw0_ := hc1 Bw.out; have fw0_ := blk_frozen Bw.out 0; clear hbox hb hg_)
    | (go_at_call 17; (with_reducible refine (parts_new x _).mono ?_); rintro e w_ ⟨ge, rfl, hg_, hbox, hb⟩; have Ge := Aside0.mk (bsz (bl HB.out) hg_ : w.heap.size ≤ ge); have Nre := Aside0.mk (nlt (kp Br.out) hg_ : gr ≠ ge); have Ner := Aside0.mk (ngt (kp Br.out) hg_ : ge ≠ gr); have Nwe := Aside0.mk (nlt (p1_0 (kp Bw.out)) hg_ : gw ≠ ge); have New := Aside0.mk (ngt (p1_0 (kp Bw.out)) hg_ : ge ≠ gw); replace HR := Aside0.mk (Kd.R_below (Kd.R_set HR.out Bw.out (by decide) 0 _) hb); replace Br := Aside0.mk (blk_below (kp Br.out) hb); replace Bw := Aside0.mk (blk_below (p1_0 (kp Bw.out)) hb); replace HB := Aside0.mk (below_step (bl HB.out) hb); have Be := Aside0.mk hbox; clear cw0_ fw0_; clear hbox hb hg_)
    | ((with_reducible refine gate_dst (N := 9) rfl ?_); refine box_event ?hg (N := 9) ?hd (cs := #[.int .i64 0]) (t := 3) ?hr ?_; (case hd => rfl); (case hg => rfl); (case hr => first | (go_simp; done) | (go_simp; rfl)); intro gi hg_ wi_ hbox hb; have Gi := Aside0.mk (bsz (bl HB.out) hg_ : w.heap.size ≤ gi); have Nri := Aside0.mk (nlt (kp Br.out) hg_ : gr ≠ gi); have Nir := Aside0.mk (ngt (kp Br.out) hg_ : gi ≠ gr); have Nwi := Aside0.mk (nlt (kp Bw.out) hg_ : gw ≠ gi); have Niw := Aside0.mk (ngt (kp Bw.out) hg_ : gi ≠ gw); have Nei := Aside0.mk (nlt (kp Be.out) hg_ : ge ≠ gi); have Nie := Aside0.mk (ngt (kp Be.out) hg_ : gi ≠ ge); replace HR := Aside0.mk (Kd.R_below (HR.out) hb); replace Br := Aside0.mk (blk_below (kp Br.out) hb); replace Bw := Aside0.mk (blk_below (kp Bw.out) hb); replace Be := Aside0.mk (blk_below (kp Be.out) hb); replace HB := Aside0.mk (below_step (bl HB.out) hb); have Bi := Aside0.mk hbox; have ci0_ := hc1 Bi.out; have fi0_ := blk_frozen Bi.out 0; clear hbox hb hg_))
  have HL := Aside0.mk (show M1 L gr gw gi A c base 0 (wi_.setCell ⟨gi, 0, none⟩ (.int .i64 0)) from ⟨kp Br.out, kp Bw.out, p1_0 (kp Bi.out), Kd.R_set HR.out Bi.out (by decide) 0 _⟩)
  have HE := Aside0.mk (show (wi_.setCell ⟨gi, 0, none⟩ (.int .i64 0)).heap[ge]? = some (.cells #[.int .i64 x] 2 (0, 0)) from kp Be.out)
  have HB2 := Aside0.mk (show Below w.heap.size w (wi_.setCell ⟨gi, 0, none⟩ (.int .i64 0)) from bl HB.out)
  clear Br Bw Bi Be HB HR ci0_ fi0_
  generalize (wi_.setCell ⟨gi, 0, none⟩ (.int .i64 0)) = W1 at HL HE HB2 ⊢
  have hz1 := below_size HB2.out
  have hlt := blk_lt HE.out
  refine (wpIn_wide (n := 9)).1 ?_
  refine wpIn_rangeFunc_ownG rfl (by omega) (gf := 29) (lb := #[.pointer (some ⟨ge, 0, none⟩)]) rfl trivial (enters_of Try.func29 (by kernel_rfl) rfl)
    (HSEQ.out ge W1 hlt HE.out) belowK_t (belowK_b hz1) (Below.refl _ _) (fun _ => rfl)
    (fun pre W => (M1 L gr gw gi A c base pre.length W ∧ pre <+: L) ∧ Below w.heap.size w W)
    (fun cc pre W => cc = .ret ∧ ¬ pre <+: L)
    (OwnFrom.and (Own.from (own_M1 L gr gw gi A c base) _) (ownFrom_below (Nat.le_refl _) hz1))
    (fun cc => fun _ _ _ _ hs _ _ => hs)
    ⟨⟨HL.out, List.nil_prefix⟩, HB2.out⟩ ?a1 ?assign ?body ?done ?stop
  case assign =>
    intro l y W K hK
    gi_wp2
    exact hK
  case body =>
    rintro l pre y W ⟨⟨hI, hpre⟩, hB⟩ hlen
    clear HL HE HB2
    have HI := Aside0.mk hI
    have HB := Aside0.mk hB
    have HPS := Aside0.mk (pre_snoc (y := y) hpre hlen)
    clear hI hB hpre
    have qrw := Nrw.out
    have qri := Nri.out
    have qwr := Nwr.out
    have qwi := Nwi.out
    have qir := Nir.out
    have qiw := Niw.out
    have ci_ := hc1 HI.out.i
    have fi_ := blk_frozen HI.out.i 0
    have cw_ := hc1 HI.out.w
    have cr_ := hc1 HI.out.r
    have fr_ := blk_frozen HI.out.r 0
    have hlt : ((pre.length : Nat) : Int) < ((L.length : Nat) : Int) := by omega
    have hge : ¬ ((pre.length : Nat) : Int) ≥ ((L.length : Nat) : Int) := by omega
    have hw1 : wrap64 (((pre.length : Nat) : Int) + 1) = ((pre.length : Nat) : Int) + 1 := by
      have h_ := (Kd.R_reads' HI.out.R).2.2.2.1
      exact w64 (by omega) (by omega)
    obtain ⟨ad, hA, d0_, d1_⟩ := at_T39 (Kd.R_reads' HI.out.R).2.2 ((pre.length : Nat) : Int) (Int.natCast_nonneg _) hlt
    have HAd := Aside0.mk hA
    rw [hA] at cw_
    clear hA
    rw [Int.toNat_natCast] at d0_ d1_
    generalize rd_T39 L ((pre.length : Nat) : Int) = y0 at d0_ d1_ HPS
    by_cases hp : y.f0 = y0.f0
    · by_cases hn : y.f1 = y0.f1
      · gi_wp2
        refine ⟨(KeepsOthers.setCell _ _ _).from _, (Below.refl _ W).setCell (p := ⟨gi, 0, none⟩) Gi.out _, ⟨⟨kp HI.out.r, kp HI.out.w, ?_, Kd.R_set HI.out.R HI.out.i (by decide) 0 _⟩, HPS.out.2 (S39_ext hp hn)⟩, bl HB.out⟩
        rw [List.length_append]; exact p1_0 (kp HI.out.i)
      · gi_wp2
        exact ⟨(KeepsOthers.setCell _ _ _).from _, rfl, fun h => hn (by rw [HPS.out.1 h])⟩
    · gi_wp2
      exact ⟨(KeepsOthers.setCell _ _ _).from _, rfl, fun h => hp (by rw [HPS.out.1 h])⟩
  case done =>
    rintro gD ys W hD hS ⟨⟨hI, hpre⟩, hB⟩ hK
    replace hS := hS.symm
    subst hS
    have Br := Aside0.mk hI.r; have Bw := Aside0.mk hI.w; have Bi := Aside0.mk hI.i; have HR := Aside0.mk hI.R
    have BD := Aside0.mk hK; have HB := Aside0.mk hB
    have GD := Aside0.mk (Nat.le_trans hz1 hD)
    have NDr := Aside0.mk (ne_of_cells BD.out Br.out (by intro h; cases h)); have NrD := Aside0.mk (ne_of_cells BD.out Br.out (by intro h; cases h)).symm
    have NDw := Aside0.mk (ne_of_cells BD.out Bw.out (by intro h; cases h)); have NwD := Aside0.mk (ne_of_cells BD.out Bw.out (by intro h; cases h)).symm
    have ci_ := hc1 Bi.out
    have cw_ := hc1 Bw.out
    clear hI hpre hB hK HL HE HB2 hlt hD Bi
    have hr9 := Int.tmod_lt_of_pos many (show (0 : Int) < 9 by decide)
    have hr8 : -9 < Int.tmod many 9 := by
      have h_ := Int.tmod_lt_of_pos (-many) (show (0 : Int) < 9 by decide)
      rw [Int.neg_tmod] at h_
      omega
    have hm2 := Int.tmod_lt_of_pos (Int.tmod many 9 + 9) (show (0 : Int) < 9 by decide)
    have hm3 := Int.tmod_nonneg (9 : Int) (show 0 ≤ Int.tmod many 9 + 9 by omega)
    obtain ⟨k, hk⟩ : ∃ k : Nat, Int.tmod (Int.tmod many 9 + 9) 9 = (k : Int) := ⟨(Int.tmod (Int.tmod many 9 + 9) 9).toNat, by omega⟩
    have hw : Int.tmod (wrap64 (Int.tmod many 9 + 9)) 9 = (k : Int) := by rw [w64 (x := Int.tmod many 9 + 9) (by omega) (by omega), hk]
    clear hk hm2 hm3 hr9 hr8
    go_wp2_with (first
      | ((with_reducible refine gate_dst (N := 12) rfl ?_); refine box_event ?hg (N := 12) ?hd (cs := #[.int .i64 0]) (t := 3) ?hr ?_; (case hd => rfl); (case hg => rfl); (case hr => first | (go_simp; done) | (go_simp; rfl)); intro gk hg_ wk_ hbox hb; have Gk := Aside0.mk (bsz (bl HB.out) hg_ : w.heap.size ≤ gk); have NDk := Aside0.mk (nlt (kp BD.out) hg_ : gD ≠ gk); have NkD := Aside0.mk (ngt (kp BD.out) hg_ : gk ≠ gD); have Nrk := Aside0.mk (nlt (kp Br.out) hg_ : gr ≠ gk); have Nkr := Aside0.mk (ngt (kp Br.out) hg_ : gk ≠ gr); have Nwk := Aside0.mk (nlt (kp Bw.out) hg_ : gw ≠ gk); have Nkw := Aside0.mk (ngt (kp Bw.out) hg_ : gk ≠ gw); replace HR := Aside0.mk (Kd.R_below (HR.out) hb); replace BD := Aside0.mk (blk_below (kp BD.out) hb); replace Br := Aside0.mk (blk_below (kp Br.out) hb); replace Bw := Aside0.mk (blk_below (kp Bw.out) hb); replace HB := Aside0.mk (below_step (bl HB.out) hb); have Bk := Aside0.mk hbox; have ck0_ := hc1 Bk.out; have fk0_ := blk_frozen Bk.out 0; clear hbox hb hg_)
      | ((with_reducible refine gate_dst (N := 13) rfl ?_); refine box_event ?hg (N := 13) ?hd (cs := #[.int .i64 0]) (t := 3) ?hr ?_; (case hd => rfl); (case hg => rfl); (case hr => first | (go_simp; done) | (go_simp; rfl)); intro gg hg_ wg_ hbox hb; have Gg := Aside0.mk (bsz (bl HB.out) hg_ : w.heap.size ≤ gg); have NDg := Aside0.mk (nlt (kp BD.out) hg_ : gD ≠ gg); have NgD := Aside0.mk (ngt (kp BD.out) hg_ : gg ≠ gD); have Nrg := Aside0.mk (nlt (kp Br.out) hg_ : gr ≠ gg); have Ngr := Aside0.mk (ngt (kp Br.out) hg_ : gg ≠ gr); have Nwg := Aside0.mk (nlt (kp Bw.out) hg_ : gw ≠ gg); have Ngw := Aside0.mk (ngt (kp Bw.out) hg_ : gg ≠ gw); have Nkg := Aside0.mk (nlt (p1_0 (kp Bk.out)) hg_ : gk ≠ gg); have Ngk := Aside0.mk (ngt (p1_0 (kp Bk.out)) hg_ : gg ≠ gk); replace HR := Aside0.mk (Kd.R_below (Kd.R_set HR.out Bk.out (by decide) 0 _) hb); replace BD := Aside0.mk (blk_below (kp BD.out) hb); replace Br := Aside0.mk (blk_below (kp Br.out) hb); replace Bw := Aside0.mk (blk_below (kp Bw.out) hb); replace Bk := Aside0.mk (blk_below (p1_0 (kp Bk.out)) hb); replace HB := Aside0.mk (below_step (bl HB.out) hb); have Bg := Aside0.mk hbox; have cg0_ := hc1 Bg.out; have fg0_ := blk_frozen Bg.out 0; clear ck0_ fk0_; clear hbox hb hg_)
      | (go_at_call 17; (with_reducible refine (parts_new x _).mono ?_); rintro e w_ ⟨gv, rfl, hg_, hbox, hb⟩; have Gv := Aside0.mk (bsz (bl HB.out) hg_ : w.heap.size ≤ gv); have NDv := Aside0.mk (nlt (kp BD.out) hg_ : gD ≠ gv); have NvD := Aside0.mk (ngt (kp BD.out) hg_ : gv ≠ gD); have Nrv := Aside0.mk (nlt (kp Br.out) hg_ : gr ≠ gv); have Nvr := Aside0.mk (ngt (kp Br.out) hg_ : gv ≠ gr); have Nwv := Aside0.mk (nlt (kp Bw.out) hg_ : gw ≠ gv); have Nvw := Aside0.mk (ngt (kp Bw.out) hg_ : gv ≠ gw); have Nkv := Aside0.mk (nlt (kp Bk.out) hg_ : gk ≠ gv); have Nvk := Aside0.mk (ngt (kp Bk.out) hg_ : gv ≠ gk); have Ngv := Aside0.mk (nlt (p1_0 (kp Bg.out)) hg_ : gg ≠ gv); have Nvg := Aside0.mk (ngt (p1_0 (kp Bg.out)) hg_ : gv ≠ gg); replace HR := Aside0.mk (Kd.R_below (Kd.R_set HR.out Bg.out (by decide) 0 _) hb); replace BD := Aside0.mk (blk_below (kp BD.out) hb); replace Br := Aside0.mk (blk_below (kp Br.out) hb); replace Bw := Aside0.mk (blk_below (kp Bw.out) hb); replace Bk := Aside0.mk (blk_below (kp Bk.out) hb); replace Bg := Aside0.mk (blk_below (p1_0 (kp Bg.out)) hb); replace HB := Aside0.mk (below_step (bl HB.out) hb); have Bv := Aside0.mk hbox; clear cg0_ fg0_; clear hbox hb hg_))
    have HL := Aside0.mk (show M2 L gr gw gk gg A c base k 0 w_ from ⟨Br.out, Bw.out, Bk.out, Bg.out, HR.out⟩)
    have hz2 := below_size HB.out
    have hltv := blk_lt Bv.out
    have hltD := blk_lt BD.out
    refine (wpIn_wide (n := 9)).1 ?_
    refine wpIn_rangeFunc_ownG rfl (by omega) (gf := 29) (lb := #[.pointer (some ⟨gv, 0, none⟩)]) rfl trivial (enters_of Try.func29 (by kernel_rfl) rfl)
      (HSEQ.out gv w_ hltv Bv.out) belowK_t (belowK_b hz2) (Below.refl _ _) (fun _ => rfl)
      (fun pre W => (M2 L gr gw gk gg A c base k pre.length W ∧ pre.length ≤ k ∧ pre <+: L ∧ W.heap[gD]? = some (.deferred (some []))) ∧ Below w.heap.size w W)
      (fun cc pre W => ((cc = .exit 2 ∧ pre.length = k + 1 ∧ M2 L gr gw gk gg A c base k k W ∧ W.heap[gD]? = some (.deferred (some []))) ∨ (cc = .ret ∧ ¬ pre <+: L)) ∧ Below w.heap.size w W)
      (OwnFrom.and (own_I2 L gr gw gk gg A c base gD k _ hltD) (ownFrom_below (Nat.le_refl _) hz2))
      (fun cc => OwnFrom.and (own_X2 L gr gw gk gg A c base gD k _ hltD cc) (ownFrom_below (Nat.le_refl _) hz2))
      ⟨⟨HL.out, Nat.zero_le _, List.nil_prefix, BD.out⟩, HB.out⟩ ?a2 ?assign2 ?body2 ?done2 ?stop2
    case assign2 =>
      intro l y W K hK
      gi_wp2
      exact hK
    case body2 =>
      clear hw
      rintro l pre y W ⟨⟨hI, hle, hpre, hKD⟩, hB⟩ hlen
      have HI := Aside0.mk hI
      have HKD := Aside0.mk hKD
      clear HL BD Br Bw Bk Bg Bv HR HB hI hKD
      have HB := Aside0.mk hB
      have HPS := Aside0.mk (pre_snoc (y := y) hpre hlen)
      clear hB hpre
      have qrw := Nrw.out
      have qrk := Nrk.out
      have qrg := Nrg.out
      have qrD := NrD.out
      have qwr := Nwr.out
      have qwg := Nwg.out
      have qkr := Nkr.out
      have qkg := Nkg.out
      have qgr := Ngr.out
      have qgw := Ngw.out
      have qgk := Ngk.out
      have qgD := NgD.out
      have qDr := NDr.out
      have qDg := NDg.out
      have ck_ := hc1 HI.out.k
      have cg_ := hc1 HI.out.g
      have fg_ := blk_frozen HI.out.g 0
      have cw_ := hc1 HI.out.w
      have cr_ := hc1 HI.out.r
      have fr_ := blk_frozen HI.out.r 0
      have hlt : ((pre.length : Nat) : Int) < ((L.length : Nat) : Int) := by omega
      have hw1 : wrap64 (((pre.length : Nat) : Int) + 1) = ((pre.length : Nat) : Int) + 1 := by
        have h_ := (Kd.R_reads' HI.out.R).2.2.2.1
        exact w64 (by omega) (by omega)
      obtain ⟨ad, hA, d0_, d1_⟩ := at_T39 (Kd.R_reads' HI.out.R).2.2 ((pre.length : Nat) : Int) (Int.natCast_nonneg _) hlt
      rw [hA] at cw_
      clear hA
      rw [Int.toNat_natCast] at d0_ d1_
      generalize rd_T39 L ((pre.length : Nat) : Int) = y0 at d0_ d1_ HPS
      have HLE := Aside0.mk hle
      clear hz1 hz2 hltv hltD hlen hx ha0 ha1 hle
      by_cases hk : pre.length = k
      · have hkk : ((pre.length : Nat) : Int) = (k : Int) := by rw [hk]
        gi_wp2
        exact ⟨KeepsFrom.refl _ _, .inl ⟨rfl, by rw [List.length_append, hk]; rfl, by have h_ := HI.out; rw [hk] at h_; exact h_, HKD.out⟩, HB.out⟩
      · have hkk : ¬ ((pre.length : Nat) : Int) = (k : Int) := fun h_ => hk (Int.natCast_inj.1 h_)
        have HKN := Aside0.mk hk
        clear hk
        by_cases hp : y.f0 = y0.f0
        · by_cases hn : y.f1 = y0.f1
          · gi_wp2
            refine ⟨(KeepsOthers.setCell _ _ _).from _, (Below.refl _ W).setCell (p := ⟨gg, 0, none⟩) Gg.out _, ⟨⟨kp HI.out.r, kp HI.out.w, kp HI.out.k, ?_, Kd.R_set HI.out.R HI.out.g (by decide) 0 _⟩, ?_, HPS.out.2 (S39_ext hp hn), kp HKD.out⟩, bl HB.out⟩
            · rw [List.length_append]; exact p1_0 (kp HI.out.g)
            · rw [List.length_append]; exact Nat.lt_of_le_of_ne HLE.out HKN.out
          · gi_wp2
            exact ⟨(KeepsOthers.setCell _ _ _).from _, .inr ⟨rfl, fun h => hn (by rw [HPS.out.1 h])⟩, bl HB.out⟩
        · gi_wp2
          exact ⟨(KeepsOthers.setCell _ _ _).from _, .inr ⟨rfl, fun h => hp (by rw [HPS.out.1 h])⟩, bl HB.out⟩
    case done2 =>
      clear hw
      rintro D2 zs W hD2 hS ⟨⟨hI, hle, hpre, hKD⟩, hB⟩ hK
      replace hS := hS.symm
      subst hS
      have HI := Aside0.mk hI
      have HKD := Aside0.mk hKD
      have HKE := Aside0.mk hK
      clear HL BD Br Bw Bk Bg Bv HR hI hKD hK
      have HB := Aside0.mk hB
      clear hB
      have cw_ := hc1 HI.out.w
      have ck_ := hc1 HI.out.k
      have cg_ := hc1 HI.out.g
      have cr_ := hc1 HI.out.r
      have fr_ := blk_frozen HI.out.r 0
      go_wp2
      all_goals (try (exfalso; omega))
      all_goals (try rw [show (((L.length : Nat) : Int) == ((k : Nat) : Int)) = true from beq_iff_eq.2 (by omega)])
      all_goals (
        have NE2 := Aside0.mk (ne_of_cells HKE.out HI.out.r (by intro h; cases h))
        have hK2 : (W.setCell ⟨gr, 0, none⟩ (.bool true)).heap[D2]? = some (.deferred (some [])) := kp HKE.out
        have hKD : (W.setCell ⟨gr, 0, none⟩ (.bool true)).heap[gD]? = some (.deferred (some [])) := kp HKD.out
        have hKR : (W.setCell ⟨gr, 0, none⟩ (.bool true)).heap[gr]? = some (.cells #[.bool true] 4 (0, 0)) := p1_0 HI.out.r
        have hBB : Below w.heap.size w (W.setCell ⟨gr, 0, none⟩ (.bool true)) := bl HB.out
        have g1 := grownBy_putObj' (W.setCell ⟨gr, 0, none⟩ (.bool true)) D2 (.deferred none)
        have hKD3 := (g1.block gD (blk_lt hKD) (fun e => by cases e; omega)).trans hKD
        have hKR3 := row_kept hKR g1 (fun r e => by cases e; exact ⟨_, hK2, rfl⟩)
        have hBB3 := hBB.trans (belowK_b (w := w) (Nat.le_refl _) _ D2 _ (.deferred none) (by omega) hK2 rfl rfl)
        have g2 := grownBy_putObj' ((W.setCell ⟨gr, 0, none⟩ (.bool true)).putObj D2 (.deferred none)) gD (.deferred none)
        have hKR4 := hc1 (row_kept hKR3 g2 (fun r e => by cases e; exact ⟨_, hKD3, rfl⟩))
        have hBB4 := hBB3.trans (belowK_b (w := w) (Nat.le_refl _) _ gD _ (.deferred none) GD.out hKD3 rfl rfl)
        refine ⟨by simp, .inl ⟨_, _, rfl, run_takeDeferred hK2, ?_⟩⟩
        refine ⟨by simp, .inl ⟨_, _, rfl, run_takeDeferred hKD3, ?_⟩⟩
        refine ⟨.bool true, ?_, rfl, hBB4⟩
        simp [results, Try.f9, go_sem, hKR4])
    case stop2 =>
      clear hw
      rintro D2 cc pre W hD2 hS ⟨⟨rfl, hl, hI, hKD⟩ | ⟨_, hbad⟩, hB⟩ hK
      · have hln : k < L.length := by
          have h_ := hS.length_le
          omega
        have HI := Aside0.mk hI
        have HKD := Aside0.mk hKD
        have HKE := Aside0.mk hK
        clear HL BD Br Bw Bk Bg Bv HR hI hKD hK
        have HB := Aside0.mk hB
        clear hB
        have cw_ := hc1 HI.out.w
        have ck_ := hc1 HI.out.k
        have cg_ := hc1 HI.out.g
        have cr_ := hc1 HI.out.r
        have fr_ := blk_frozen HI.out.r 0
        gi_wp2
        go_wp2
        all_goals (try (exfalso; omega))
        all_goals (try rw [show (((L.length : Nat) : Int) == ((k : Nat) : Int)) = true from beq_iff_eq.2 (by omega)])
        all_goals (
          have NE2 := Aside0.mk (ne_of_cells HKE.out HI.out.r (by intro h; cases h))
          have hK2 : (W.setCell ⟨gr, 0, none⟩ (.bool true)).heap[D2]? = some (.deferred (some [])) := kp HKE.out
          have hKD : (W.setCell ⟨gr, 0, none⟩ (.bool true)).heap[gD]? = some (.deferred (some [])) := kp HKD.out
          have hKR : (W.setCell ⟨gr, 0, none⟩ (.bool true)).heap[gr]? = some (.cells #[.bool true] 4 (0, 0)) := p1_0 HI.out.r
          have hBB : Below w.heap.size w (W.setCell ⟨gr, 0, none⟩ (.bool true)) := bl HB.out
          have g1 := grownBy_putObj' (W.setCell ⟨gr, 0, none⟩ (.bool true)) D2 (.deferred none)
          have hKD3 := (g1.block gD (blk_lt hKD) (fun e => by cases e; omega)).trans hKD
          have hKR3 := row_kept hKR g1 (fun r e => by cases e; exact ⟨_, hK2, rfl⟩)
          have hBB3 := hBB.trans (belowK_b (w := w) (Nat.le_refl _) _ D2 _ (.deferred none) (by omega) hK2 rfl rfl)
          have g2 := grownBy_putObj' ((W.setCell ⟨gr, 0, none⟩ (.bool true)).putObj D2 (.deferred none)) gD (.deferred none)
          have hKR4 := hc1 (row_kept hKR3 g2 (fun r e => by cases e; exact ⟨_, hKD3, rfl⟩))
          have hBB4 := hBB3.trans (belowK_b (w := w) (Nat.le_refl _) _ gD _ (.deferred none) GD.out hKD3 rfl rfl)
          refine ⟨by simp, .inl ⟨_, _, rfl, run_takeDeferred hK2, ?_⟩⟩
          refine ⟨by simp, .inl ⟨_, _, rfl, run_takeDeferred hKD3, ?_⟩⟩
          refine ⟨.bool true, ?_, rfl, hBB4⟩
          simp [results, Try.f9, go_sem, hKR4])
      · exact absurd hS hbad
  case stop =>
    rintro D cc pre W hD hS ⟨rfl, hbad⟩ hK
    exact absurd hS hbad
end Go.Proofs.Ytbfajaeghiodnaa.Di
