/- lex.Join: the text of tokens. Its conditions: the listed variables as they were laid; tokens that are read, of at most 2^40 bytes together. -/
import Derived.Test.YtimkhjbnkcgekaaDoorH10
import Derived.Test.YtimkhjbnkcgekaaDoorBuK
import Derived.Test.YtimkhjbnkcgekaaDoorLx4
namespace Go.Proofs.YtimkhjbnkcgekaaDoor
open Go Go.RowKit Go.Shelf Flat Go.Proofs.YtimkhjbnkcgekaaDoor.Lx Go.Proofs.YtimkhjbnkcgekaaDoor.Bu Go.Proofs.YtimkhjbnkcgekaaDoor.Sq Go.Proofs.YtimkhjbnkcgekaaDoor.PB Go.Proofs.YtimkhjbnkcgekaaDoor.PC Go.Proofs.YtimkhjbnkcgekaaDoorW.PrintWords Go.Proofs.YtimkhjbnkcgekaaDoorW.PrintLast Go.Proofs.YtimkhjbnkcgekaaDoorW.PrintMore
set_option linter.unusedVariables false
set_option linter.unusedSimpArgs false
def cellsI (l : List Int) : List Value := l.map fun c => .int .u8 c
theorem cellsI_append (a b : List Int) : cellsI (a ++ b) = cellsI a ++ cellsI b := by unfold cellsI; rw [List.map_append]
theorem cellsI_str (s : ByteArray) : Lib.strCells s = cellsI (bytesOf s) := by
  rw [Lib.strCells_eq]
  unfold Lib.byteCells cellsI bytesOf
  rw [List.map_map]
  rfl
theorem cellsI_bytes (l : List Int) (h : ∀ c ∈ l, 0 ≤ c ∧ c ≤ 255) : cellsI l = Lib.byteCells (l.map fun c => c.toNat.toUInt8) := by
  unfold Lib.byteCells cellsI
  rw [List.map_map]
  refine List.map_congr_left (fun c hc => ?_)
  have := h c hc
  have e : c.toNat.toUInt8.toNat = c.toNat % 256 := by simp
  show Value.int .u8 c = Value.int .u8 ((c.toNat.toUInt8.toNat : Nat) : Int)
  rw [e]
  congr 1
  omega
/-- What Join's loop keeps. -/
structure JInv (b gx : Nat) (xs : Array Value) (bs : List Int) (w Wb W : World) : Prop where
  B : Lib.IsBuilderF 61 5 b b (cellsI bs) W
  x : W.heap[gx]? = some (.cells xs 38 (0, 0))
  hB : Below w.heap.size w W
  hb : b ≤ W.heap.size
theorem others_blk {w w' : World} {b : Nat} (h : Lib.OthersKept 5 (some b) w w') {g : Nat} {cs : Array Value} {t : TypeId} (hg : w.heap[g]? = some (.cells cs t (0, 0))) (hne : g ≠ b) (ht : t ≠ 5) : w'.heap[g]? = some (.cells cs t (0, 0)) :=
  h g _ hg (fun e => hne (Option.some.inj e)) (fun c fz e => by cases e; exact ht rfl)
theorem sty_open {n : Int} {x : Sty} (h : style_Of.f n = some x) : 0 ≤ x.open_ ∧ x.open_ ≤ 255 := by
  unfold style_Of.f at h
  unfold Sty.open_
  repeat' split at h
  all_goals (obtain rfl := Option.some.inj h; simp)
theorem at_kept {T e : TypeId} {B b : Nat} {p : Value} {bs : List Value} {X Y : World} {row : Option Nat} (h : Lib.BuilderAtF T e B b p bs X) (hg : X.grownBy Y row) (hr : ∀ r, row = some r → ∃ o : Obj, X.heap[r]? = some o ∧ o.isCells = false) : Lib.BuilderAtF T e B b p bs Y := by
  obtain ⟨hB, v, hb, hown, hne⟩ := h
  have hb' : Y.heap[b]? = some (.cells #[p, v] T (0, 0)) := by
    refine (hg.block b (Array.getElem?_eq_some_iff.1 hb).1 (fun e1 => ?_)).trans hb
    obtain ⟨o, ho, hc⟩ := hr b e1.symm
    rw [hb] at ho; cases ho; cases hc
  refine ⟨hB, v, hb', hown.kept hg ?_, hne⟩
  rcases hown.2 with ⟨rfl, _⟩ | ⟨g, cap, cur, fz, rfl, _, hgb, _⟩
  · exact .inl rfl
  · refine .inr fun e' => ?_
    obtain ⟨o, ho, hc⟩ := hr g (by rw [← e']; rfl)
    rw [hgb] at ho; cases ho; cases hc
theorem joinL_snoc (x : Sty) (l : List S31) (y : S31) : joinL x (l ++ [y]) = joinL x l ++ pieceT x y := by unfold joinL; simp
theorem joinL_take (x : Sty) (l : List S31) (i : Nat) (hi : i < l.length) : joinL x (l.take (i + 1)) = joinL x (l.take i) ++ pieceT x (rd_T31 l (i : Int)) := by
  have h : rd_T31 l (i : Int) = l[i] := by
    unfold rd_T31
    rw [Int.toNat_natCast, List.getD_eq_getElem?_getD, List.getElem?_eq_getElem hi]
    rfl
  rw [List.take_succ_eq_append_getElem hi, joinL_snoc, h]
theorem joinL_le (x : Sty) (l : List S31) (i : Nat) (hi : i < l.length) : (joinL x (l.take i)).length + (pieceT x (rd_T31 l (i : Int))).length ≤ (joinL x l).length := by
  have h := joinL_take x l i hi
  have e : joinL x l = joinL x (l.take (i + 1)) ++ joinL x (l.drop (i + 1)) := by
    unfold joinL
    rw [← List.flatMap_append, List.take_append_drop]
  rw [e, h, List.length_append, List.length_append]
  omega
theorem joinL_bounds {x : Sty} (ho : 0 ≤ x.open_ ∧ x.open_ ≤ 255) (hc : 0 ≤ x.close_ ∧ x.close_ ≤ 255) (l : List S31) : ∀ c ∈ joinL x l, 0 ≤ c ∧ c ≤ 255 := by
  intro c h
  unfold joinL at h
  obtain ⟨t, _, h⟩ := List.mem_flatMap.1 h
  unfold pieceT at h
  split at h
  · rcases List.mem_append.1 h with h | h
    · rcases List.mem_cons.1 h with rfl | h
      · exact ho
      · exact bytes_bounds _ c h
    · obtain rfl := List.mem_singleton.1 h
      exact hc
  · exact bytes_bounds _ c h
theorem builder_lt {b : Nat} {bs : List Value} {W : World} (h : Lib.IsBuilderF 61 5 b b bs W) : b < W.heap.size := by
  rcases h with h | h
  · exact h.lt
  · exact h.lt
set_option maxHeartbeats 8000000 in
set_option maxRecDepth 100000 in
theorem join_calls (n : Int) (x : Sty) (hx : style_Of.f n = some x) (A : Option Addr) (c : Nat) (l : List S31) (w : World) (hG : Glob [0] w) (hC : Kd.C k31 w A l.length l) (hl : (joinL x l).length ≤ 100000 ∧ l.length ≤ 100000) :
    Calls Tryd.prog 20 #[.int .i64 n, .slice A l.length c] w fun e w' => e = .returned (.string (strOfNums (joinL x l))) ∧ Below w.heap.size w w' := by
  have hu31 := Tryd.underlying31
  have HG := Aside0.mk hG
  have HX := Aside0.mk hx
  have HC := Aside0.mk hC
  have HB := Aside0.mk (Below.refl w.heap.size w)
  have HS := Aside0.mk (sty_ok hx)
  have HL := Aside0.mk hl
  have HO := Aside0.mk (sty_open hx)
  obtain ⟨J, hJ⟩ : ∃ J, joinL x l = J := ⟨_, rfl⟩
  rw [hJ] at HL ⊢
  have HJ := Aside0.mk hJ
  clear hG hx hC hl hJ
  obtain ⟨x1, x2, x3, x4, x5, x6, x7⟩ := x
  go_enter Tryd.func20, Tryd.ntmps20
  go_upto_region 2 with (first | (go_at_call 25; (with_reducible refine (style_Of.calls n x1 x2 x3 x4 x5 x6 x7 _ (Glob.use HG.out (by decide) (bl HB.out)) HX.out).mono ?_); rintro e w_ ⟨rfl, hb⟩; replace HB := sb HB hb; clear hb) | ((with_reducible refine gate_dst (N := 5) rfl ?_); refine box_event ?hg (N := 5) ?hd (cs := #[.bool false, .int .u8 0, .int .u8 0, .int .u8 0, .int .u8 0, .int .u8 0]) (t := 38) ?hr ?_; (case hd => rfl); (case hg => rfl); (case hr => first | (go_simp; done) | (go_simp; rfl)); intro gx hg w2 hbox hb; have GX := Aside0.mk (bsz (bl HB.out) hg : w.heap.size ≤ gx); replace HB := sb HB hb; have BX := Aside0.mk hbox; have x0_ : w2.cell? ⟨gx, 0, none⟩ = some (.bool false) := (blk_cell hbox 0).trans rfl; have y0_ := blk_frozen hbox 0; have x1_ : w2.cell? ⟨gx, 1, none⟩ = some (.int .u8 0) := (blk_cell hbox 1).trans rfl; have y1_ := blk_frozen hbox 1; have x2_ : w2.cell? ⟨gx, 2, none⟩ = some (.int .u8 0) := (blk_cell hbox 2).trans rfl; have y2_ := blk_frozen hbox 2; have x3_ : w2.cell? ⟨gx, 3, none⟩ = some (.int .u8 0) := (blk_cell hbox 3).trans rfl; have y3_ := blk_frozen hbox 3; have x4_ : w2.cell? ⟨gx, 4, none⟩ = some (.int .u8 0) := (blk_cell hbox 4).trans rfl; have y4_ := blk_frozen hbox 4; have x5_ : w2.cell? ⟨gx, 5, none⟩ = some (.int .u8 0) := (blk_cell hbox 5).trans rfl; have y5_ := blk_frozen hbox 5; clear hbox hb hg))
  have hBX : (World.setCell (World.setCell (World.setCell (World.setCell (World.setCell (World.setCell w2 ⟨gx, 0, none⟩ (.bool x1)) ⟨gx, 1, none⟩ (.int .u8 x2)) ⟨gx, 2, none⟩ (.int .u8 x3)) ⟨gx, 3, none⟩ (.int .u8 x4)) ⟨gx, 4, none⟩ (.int .u8 x5)) ⟨gx, 5, none⟩ (.int .u8 x6)).heap[gx]? = some (.cells #[.bool x1, .int .u8 x2, .int .u8 x3, .int .u8 x4, .int .u8 x5, .int .u8 x6] 38 (0, 0)) := (blk_put (cs' := #[.bool x1, .int .u8 x2, .int .u8 x3, .int .u8 x4, .int .u8 x5, .int .u8 x6]) (blk_put (cs' := #[.bool x1, .int .u8 x2, .int .u8 x3, .int .u8 x4, .int .u8 x5, .int .u8 0]) (blk_put (cs' := #[.bool x1, .int .u8 x2, .int .u8 x3, .int .u8 x4, .int .u8 0, .int .u8 0]) (blk_put (cs' := #[.bool x1, .int .u8 x2, .int .u8 x3, .int .u8 0, .int .u8 0, .int .u8 0]) (blk_put (cs' := #[.bool x1, .int .u8 x2, .int .u8 0, .int .u8 0, .int .u8 0, .int .u8 0]) (blk_put (cs' := #[.bool x1, .int .u8 0, .int .u8 0, .int .u8 0, .int .u8 0, .int .u8 0]) BX.out 0 _ rfl) 1 _ rfl) 2 _ rfl) 3 _ rfl) 4 _ rfl) 5 _ rfl)
  replace HB := Aside0.mk (show Below w.heap.size w (World.setCell (World.setCell (World.setCell (World.setCell (World.setCell (World.setCell w2 ⟨gx, 0, none⟩ (.bool x1)) ⟨gx, 1, none⟩ (.int .u8 x2)) ⟨gx, 2, none⟩ (.int .u8 x3)) ⟨gx, 3, none⟩ (.int .u8 x4)) ⟨gx, 4, none⟩ (.int .u8 x5)) ⟨gx, 5, none⟩ (.int .u8 x6)) from bl HB.out)
  clear BX x0_ x1_ x2_ x3_ x4_ x5_ y0_ y1_ y2_ y3_ y4_ y5_
  generalize (World.setCell (World.setCell (World.setCell (World.setCell (World.setCell (World.setCell w2 ⟨gx, 0, none⟩ (.bool x1)) ⟨gx, 1, none⟩ (.int .u8 x2)) ⟨gx, 2, none⟩ (.int .u8 x3)) ⟨gx, 3, none⟩ (.int .u8 x4)) ⟨gx, 4, none⟩ (.int .u8 x5)) ⟨gx, 5, none⟩ (.int .u8 x6)) = W1 at HB hBX ⊢
  go_upto_region 3 with (fail)
  have hI0 : Lib.IsBuilderF 61 5 W1.heap.size W1.heap.size (cellsI (joinL (x1, x2, x3, x4, x5, x6, x7) (l.take 0))) (W1.alloc (.cells #[.pointer none, .slice none 0 0] 61)) := Lib.IsBuilderF.of (Lib.fresh_isBuilder 61 5 W1)
  have hXb : gx ≠ W1.heap.size := Nat.ne_of_lt (blk_lt hBX)
  have hle : w.heap.size ≤ W1.heap.size := HB.out.size
  have hBX2 := blk_alloc hBX (.cells #[.pointer none, .slice none 0 0] 61)
  have hB2 := below_alloc HB.out (.cells #[.pointer none, .slice none 0 0] 61)
  generalize hW2 : W1.alloc (.cells #[.pointer none, .slice none 0 0] 61) = W2 at hI0 hBX2 hB2 ⊢
  obtain ⟨b, hb⟩ : ∃ b, W1.heap.size = b := ⟨_, rfl⟩
  rw [hb] at hI0 hXb hle ⊢
  have HXB := Aside0.mk hXb
  have HLE := Aside0.mk hle
  have HI0 := Aside0.mk (And.intro hI0 (And.intro hBX2 hB2))
  clear hI0 hXb hle hBX hBX2 hB2 hW2 hb HB
  go_upto_region 4 with (fail)
  go_loopw [17] (fun v17 wr => ∃ i : Nat, v17 = .int .i64 (i : Int) ∧ Aside0 (i ≤ l.length) ∧ Aside0 (Lib.IsBuilderF 61 5 b b (cellsI (joinL (x1, x2, x3, x4, x5, x6, x7) (l.take i))) wr ∧ wr.heap[gx]? = some (.cells #[.bool x1, .int .u8 x2, .int .u8 x3, .int .u8 x4, .int .u8 x5, .int .u8 x6] 38 (0, 0)) ∧ Below w.heap.size w wr)) (fun v17 _ => l.length - (intOf v17).toNat)
  case atStart => exact ⟨0, rfl, ⟨Nat.zero_le _⟩, HI0⟩
  case round =>
    clear HI0
    obtain ⟨i, rfl, HI, HW⟩ := hrel
    have hil := HI.out
    by_cases hlt : i < l.length
    · have hd : decide ((i : Int) < (l.length : Int)) = true := by simp; omega
      have hq0 := eq_true (show (0 : Int) ≤ (i : Int) by omega)
      have hq1 := eq_true (show (i : Int) < (l.length : Int) by omega)
      have hq2 := eq_true hlt
      have HLT := Aside0.mk hlt
      have HTK := Aside0.mk (joinL_take (x1, x2, x3, x4, x5, x6, x7) l i hlt)
      have HLEN0 := joinL_le (x1, x2, x3, x4, x5, x6, x7) l i hlt
      have hll := HL.out
      rw [HJ.out] at HLEN0
      obtain ⟨ad, hA, hx0, hx1, hx2, hx3⟩ := at_T31 (Kd.C_below HC.out HW.out.2.2) (i : Int) (by omega) (by omega)
      subst hA
      have hnw : wrap64 ((i : Int) + 1) = ((i + 1 : Nat) : Int) := by rw [w64 (by omega) (by omega)]; omega
      obtain ⟨a, hea⟩ : ∃ a : Int, a = ((i + 1 : Nat) : Int) := ⟨_, rfl⟩
      rw [← hea] at hnw
      have HNW := Aside0.mk hnw
      have HEA := Aside0.mk hea
      clear hnw hea
      rw [Int.toNat_natCast] at hx0 hx1 hx2 hx3
      generalize rd_T31 l (i : Int) = y at hx0 hx1 hx2 hx3 HTK HLEN0
      obtain ⟨y0, y1, y2, y3⟩ := y
      generalize joinL (x1, x2, x3, x4, x5, x6, x7) (l.take i) = P at HW HTK HLEN0
      have hps : (bytesOf y2).length ≤ (pieceT (x1, x2, x3, x4, x5, x6, x7) ⟨y0, y1, y2, y3⟩).length := by
        unfold pieceT
        split
        · simp only [List.length_append, List.length_cons]; omega
        · exact Nat.le_refl _
      rw [bytesOf_length] at hps
      have HLEN := Aside0.mk (show P.length + y2.size ≤ 100000 by omega)
      clear hll HLEN0 hps hil hlt
      go_upto_region 6 with (fail)
      have hB1 : Lib.IsBuilderF 61 5 b b (cellsI P) (wr.alloc (.cells #[.int .i64 y0, .int .i64 y1, .string y2, .int .i64 y3] 31)) := HW.out.1.alloc _
      have hX1 := blk_alloc HW.out.2.1 (.cells #[.int .i64 y0, .int .i64 y1, .string y2, .int .i64 y3] 31)
      have hW1 := below_alloc HW.out.2.2 (.cells #[.int .i64 y0, .int .i64 y1, .string y2, .int .i64 y3] 31)
      have hT1 := heap_alloc_new wr (.cells #[.int .i64 y0, .int .i64 y1, .string y2, .int .i64 y3] 31)
      have hbl := builder_lt HW.out.1
      have NTB := Aside0.mk (show wr.heap.size ≠ b by omega)
      have hbw := Nat.le_of_lt (builder_lt hB1)
      clear hx0 hx1 hx2 hx3 HW hbl
      generalize wr.alloc (.cells #[.int .i64 y0, .int .i64 y1, .string y2, .int .i64 y3] 31) = W3 at hB1 hX1 hW1 hT1 hbw ⊢
      generalize hgt : wr.heap.size = gt at hT1 NTB ⊢
      have BB := Aside0.mk hB1
      have HX2 := Aside0.mk hX1
      have HB := Aside0.mk hW1
      have HT := Aside0.mk hT1
      have HLB := Aside0.mk hbw
      have o4_ : W3.cell? ⟨gx, 4, none⟩ = some (.int .u8 x5) := (blk_cell hX1 4).trans rfl
      obtain ⟨t0_, t1_, t2_, t3_⟩ := hc4 hT1
      clear hB1 hX1 hW1 hT1 hbw hgt
      by_cases h9 : y0 = 9
      · have d9 : (y0 != 9) = false := bne_eq_false_iff_eq.2 h9
        have HP9 := Aside0.mk (show pieceT (x1, x2, x3, x4, x5, x6, x7) ⟨y0, y1, y2, y3⟩ = x5 :: bytesOf y2 ++ [x6] from if_pos h9)
        clear h9
        go_upto_region 9 with (go_at_call 28; (with_reducible refine (Builder_WriteByte_k b b _ x5 _ BB.out (by have h_ := HLEN.out; have hz_ := bytesOf_length y2; simp only [cellsI, List.length_map, List.length_append, List.length_cons, List.length_nil]; omega) HLB.out).mono ?_); rintro e w_ ⟨rfl, hA, hb, hk⟩; replace HX2 := Aside0.mk (others_blk hk HX2.out HXB.out (by decide)); replace HT := Aside0.mk (others_blk hk HT.out NTB.out (by decide)); have hle_ := Nat.le_trans HLB.out hb.size; replace HB := Aside0.mk (HB.out.trans (hb.mono HLE.out)); replace HLB := Aside0.mk hle_; replace BB := Aside0.mk (show Lib.IsBuilderF 61 5 b b (cellsI (P ++ [x5])) w_ from by rw [cellsI_append]; exact .inr hA); clear hA hb hk hle_; clear t0_ t1_ t2_ t3_; obtain ⟨t0_, t1_, t2_, t3_⟩ := hc4 HT.out; have o4_ : w_.cell? ⟨gx, 4, none⟩ = some (.int .u8 x5) := (blk_cell HX2.out 4).trans rfl; have o5_ : w_.cell? ⟨gx, 5, none⟩ = some (.int .u8 x6) := (blk_cell HX2.out 5).trans rfl)
        go_upto_region 10 with (go_at_call 27; (with_reducible refine (Builder_WriteString_k b b _ y2 _ BB.out (by have h_ := HLEN.out; have hz_ := bytesOf_length y2; simp only [cellsI, List.length_map, List.length_append, List.length_cons, List.length_nil]; omega) HLB.out).mono ?_); rintro e w_ ⟨rfl, hA, hb, hk⟩; replace HX2 := Aside0.mk (others_blk hk HX2.out HXB.out (by decide)); replace HT := Aside0.mk (others_blk hk HT.out NTB.out (by decide)); have hle_ := Nat.le_trans HLB.out hb.size; replace HB := Aside0.mk (HB.out.trans (hb.mono HLE.out)); replace HLB := Aside0.mk hle_; replace BB := Aside0.mk (show Lib.IsBuilderF 61 5 b b (cellsI ((P ++ [x5]) ++ bytesOf y2)) w_ from by rw [cellsI_append (P ++ [x5]), ← cellsI_str]; exact .inr hA); clear hA hb hk hle_; clear t0_ t1_ t2_ t3_; obtain ⟨t0_, t1_, t2_, t3_⟩ := hc4 HT.out; have o4_ : w_.cell? ⟨gx, 4, none⟩ = some (.int .u8 x5) := (blk_cell HX2.out 4).trans rfl; have o5_ : w_.cell? ⟨gx, 5, none⟩ = some (.int .u8 x6) := (blk_cell HX2.out 5).trans rfl)
        have hnw := HNW.out
        have hnw2 : IntKind.i64.wrap ((i : Int) + 1) = a := (i64_w _).trans hnw
        go_wp2_with (go_at_call 28; (with_reducible refine (Builder_WriteByte_k b b _ x6 _ BB.out (by have h_ := HLEN.out; have hz_ := bytesOf_length y2; simp only [cellsI, List.length_map, List.length_append, List.length_cons, List.length_nil]; omega) HLB.out).mono ?_); rintro e w_ ⟨rfl, hA, hb, hk⟩; replace HX2 := Aside0.mk (others_blk hk HX2.out HXB.out (by decide)); replace HT := Aside0.mk (others_blk hk HT.out NTB.out (by decide)); have hle_ := Nat.le_trans HLB.out hb.size; replace HB := Aside0.mk (HB.out.trans (hb.mono HLE.out)); replace HLB := Aside0.mk hle_; replace BB := Aside0.mk (show Lib.IsBuilderF 61 5 b b (cellsI (((P ++ [x5]) ++ bytesOf y2) ++ [x6])) w_ from by rw [cellsI_append ((P ++ [x5]) ++ bytesOf y2)]; exact .inr hA); clear hA hb hk hle_; clear t0_ t1_ t2_ t3_; obtain ⟨t0_, t1_, t2_, t3_⟩ := hc4 HT.out; have o4_ : w_.cell? ⟨gx, 4, none⟩ = some (.int .u8 x5) := (blk_cell HX2.out 4).trans rfl; have o5_ : w_.cell? ⟨gx, 5, none⟩ = some (.int .u8 x6) := (blk_cell HX2.out 5).trans rfl)
        clear hnw hnw2
        go_roundw
        case rel => exact ⟨i + 1, congrArg _ HEA.out, ⟨HLT.out⟩, ⟨by rw [HTK.out, HP9.out]; have h_ := BB.out; rw [List.append_assoc, List.append_assoc] at h_; exact h_, HX2.out, HB.out⟩⟩
        case measure => have h_ := HLT.out; have h2_ := HEA.out; simp [intOf]; omega
      · have d9 : (y0 != 9) = true := bne_iff_ne.2 h9
        have HP9 := Aside0.mk (show pieceT (x1, x2, x3, x4, x5, x6, x7) ⟨y0, y1, y2, y3⟩ = bytesOf y2 from if_neg h9)
        clear h9
        have hnw := HNW.out
        have hnw2 : IntKind.i64.wrap ((i : Int) + 1) = a := (i64_w _).trans hnw
        go_wp2_with (go_at_call 27; (with_reducible refine (Builder_WriteString_k b b _ y2 _ BB.out (by have h_ := HLEN.out; have hz_ := bytesOf_length y2; simp only [cellsI, List.length_map, List.length_append, List.length_cons, List.length_nil]; omega) HLB.out).mono ?_); rintro e w_ ⟨rfl, hA, hb, hk⟩; replace HX2 := Aside0.mk (others_blk hk HX2.out HXB.out (by decide)); replace HT := Aside0.mk (others_blk hk HT.out NTB.out (by decide)); have hle_ := Nat.le_trans HLB.out hb.size; replace HB := Aside0.mk (HB.out.trans (hb.mono HLE.out)); replace HLB := Aside0.mk hle_; replace BB := Aside0.mk (show Lib.IsBuilderF 61 5 b b (cellsI (P ++ bytesOf y2)) w_ from by rw [cellsI_append, ← cellsI_str]; exact .inr hA); clear hA hb hk hle_; clear t0_ t1_ t2_ t3_; obtain ⟨t0_, t1_, t2_, t3_⟩ := hc4 HT.out; have o4_ : w_.cell? ⟨gx, 4, none⟩ = some (.int .u8 x5) := (blk_cell HX2.out 4).trans rfl; have o5_ : w_.cell? ⟨gx, 5, none⟩ = some (.int .u8 x6) := (blk_cell HX2.out 5).trans rfl)
        clear hnw hnw2
        go_roundw
        case rel => exact ⟨i + 1, congrArg _ HEA.out, ⟨HLT.out⟩, ⟨by rw [HTK.out, HP9.out]; exact BB.out, HX2.out, HB.out⟩⟩
        case measure => have h_ := HLT.out; have h2_ := HEA.out; simp [intOf]; omega
    · have hd : decide ((i : Int) < (l.length : Int)) = false := by simp; omega
      have htk : l.take i = l := List.take_of_length_le (by omega)
      rw [htk, HJ.out] at HW
      have hbb := builder_lt HW.out.1
      have HJ8 := Aside0.mk (show Lib.IsBuilderF 61 5 b b (Lib.byteCells (J.map fun c => c.toNat.toUInt8)) wr from by rw [← cellsI_bytes J (by rw [← HJ.out]; exact joinL_bounds HO.out ⟨HS.out.1, HS.out.2.1⟩ l)]; exact HW.out.1)
      go_wp2_with (go_at_call 29; (with_reducible refine (Tryd.Builder_String_any_k b b (J.map fun c => c.toNat.toUInt8) _ HJ8.out (Nat.le_of_lt hbb)).mono ?_); rintro e w_ ⟨rfl, hA, hb, hk⟩)
      go_ret
      exact ⟨rfl, HW.out.2.2.trans (hb.mono HLE.out)⟩
def lex_Join.f (a0 : Int) (l : List S31) : Option ByteArray := (style_Of.f a0).bind fun x => if (joinL x l).length ≤ 100000 ∧ l.length ≤ 100000 then some (strOfNums (joinL x l)) else none
theorem lex_Join.calls (a0 : Int) (A1 : Option Addr) (c1 : Nat) (l1 : List S31) (r : ByteArray) (w : World) (hr1 : Kd.C k31 w A1 l1.length l1) (hc1 : l1.length ≤ c1) (hG : Glob [0] w) (h : lex_Join.f a0 l1 = some r) :
    Calls Tryd.prog 20 #[.int .i64 a0, .slice A1 l1.length c1] w fun e w' => e = .returned (.string r) ∧ Below w.heap.size w w' := by
  unfold lex_Join.f at h
  obtain ⟨x, hx, h⟩ := Option.bind_eq_some_iff.mp h
  split at h
  · rename_i hl
    cases h
    exact join_calls a0 x hx A1 c1 l1 w hG hr1 hl
  · cases h
end Go.Proofs.YtimkhjbnkcgekaaDoor
