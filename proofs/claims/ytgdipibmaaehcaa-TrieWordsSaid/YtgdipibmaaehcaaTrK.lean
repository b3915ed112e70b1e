/- The walk of a trie, for every loop body: the words behind a node, by their bytes. Conditions: those in each theorem. -/
import Derived.Test.YtgdipibmaaehcaaTrH
import Derived.Test.YtgdipibmaaehcaaTrJ
import Derived.Test.YtgdipibmaaehcaaTrI
import Derived.Test.YtgdipibmaaehcaaTrP
import Derived.Laws.IdiomStrings
namespace Go.Proofs.Ytgdipibmaaehcaa.Tr
open Go Go.RowKit Go.Shelf Go.Proofs.Ytgdipibmaaehcaa Go.Proofs.Ytgdipibmaaehcaa.Sq Go.Proofs.YtgdipibmaaehcaaW.PrintWords Go.Proofs.YtgdipibmaaehcaaW.PrintLast Go.Proofs.YtgdipibmaaehcaaW.PrintMore
attribute [local go_sem] Oper.semAt_some
set_option linter.unusedVariables false
set_option linter.unusedSimpArgs false
/-- The word at a node. -/
def own1 (P : List Str) (wd : List Int) (s : ByteArray) : List (ByteArray × Int) := match pos P (strOf s) with | some i => (if wd.getD i 0 = -1 then [] else [(s, wd.getD i 0)]) | none => []
/-- The words behind a node, by their bytes, to a depth. -/
def tell (P : List Str) (wd : List Int) : Nat → ByteArray → List (ByteArray × Int)
  | 0, _ => []
  | d + 1, s => own1 P wd s ++ (kidsC (kidF P (strOf s))).flatMap fun c => tell P wd d (s ++ ⟨#[byteOf c]⟩)
theorem strOf_push (s : ByteArray) (b : UInt8) : strOf (s ++ ⟨#[b]⟩) = strOf s ++ [b] := by
  unfold strOf
  simp [ByteArray.data_append]
theorem byteOf_nat {c : Int} (h0 : 0 ≤ c) (h1 : c ≤ 255) : (((byteOf c).toNat : Nat) : Int) = c := by
  unfold byteOf
  simp only [Nat.toUInt8, UInt8.toNat_ofNat']
  omega
theorem byte_string (W : World) (c : Int) (h0 : 0 ≤ c) (h1 : c ≤ 255) : (convert 49 9 (.slice (some ⟨W.heap.size, 0, none⟩) 1 1)).run Try.prog (W.alloc (.cells #[.int .u8 c] 5)) = .ok (.string ⟨#[byteOf c]⟩) (W.alloc (.cells #[.int .u8 c] 5)) := by
  have h := run_convert_bytes_back (P := Try.prog) (W.alloc (.cells #[.int .u8 c] 5)) 49 9 5 ⟨W.heap.size, 0, none⟩ 1 [byteOf c] Try.underlying49 Try.underlying5 Try.underlying9 (fun j hj => by
    obtain rfl : j = 0 := by simpa using hj
    show (W.alloc (.cells #[.int .u8 c] 5)).cell? ⟨W.heap.size, 0, none⟩ = some (.int .u8 (((byteOf c).toNat : Nat) : Int))
    rw [byteOf_nat h0 h1]
    exact hc1 (heap_alloc_new W _))
  simpa using h
abbrev Wt := ByteArray × Int
/-- The walk's own boxes. -/
structure Bx (gt : Nat) (s : ByteArray) (l : Nat) (b1 b2 b3 : Nat) (w : World) : Prop where
  t : w.heap[b1]? = some (.cells #[.pointer (some ⟨gt, 0, none⟩)] 25 (0, 0))
  s : w.heap[b2]? = some (.cells #[.string s] 9 (0, 0))
  y : w.heap[b3]? = some (.cells #[.func (.yield l) #[] #[]] 59 (0, 0))
theorem Bx.keep {gt : Nat} {s : ByteArray} {l b1 b2 b3 B : Nat} {w w' : World} (h : Bx gt s l b1 b2 b3 w) (hk : KeepGE B w w') (hb : B ≤ b1 ∧ B ≤ b2 ∧ B ≤ b3) : Bx gt s l b1 b2 b3 w' := ⟨hk.same _ _ hb.1 h.t, hk.same _ _ hb.2.1 h.s, hk.same _ _ hb.2.2 h.y⟩
def YieldsTo (l B n₀ : Nat) (J Jx : List Wt → World → Prop) (T : List Wt) : Prop := ∀ (m : Nat) (pre : List Wt) (x : Wt) (W1 : World), J pre W1 → pre ++ [x] <+: T → YieldAt Fence.wide m Try.prog l #[.string x.1, .int .i64 x.2] W1 fun e W' =>
  (e = .returned (.bool true) ∧ J (pre ++ [x]) W' ∧ Below n₀ W1 W' ∧ KeepGE B W1 W') ∨ (e = .returned (.bool false) ∧ Jx (pre ++ [x]) W' ∧ KeepGE B W1 W')
set_option maxHeartbeats 8000000 in
set_option maxRecDepth 100000 in
theorem walk_calls {gt base : Nat} {P : List Str} {wd : List Int} {wn : World} (hT : TrieAt gt base P wd wn) (h6 : ∀ x ∈ P, x.length ≤ 6) (l B : Nat) (J Jx : List Wt → World → Prop) (hJ : AbidesN B J) (hJx : AbidesN B Jx) (hB : wn.heap.size ≤ B)
    (T : List Wt) (hY : YieldsTo l B wn.heap.size J Jx T) : ∀ (d i : Nat) (s : ByteArray) (pre : List Wt) (W : World), P[i]? = some (strOf s) → (strOf s).length + d = 7 → Below wn.heap.size wn W → B ≤ W.heap.size → J pre W → pre ++ tell P wd d s <+: T →
    Calls Try.prog 29 #[.pointer (some ⟨gt, 0, none⟩), .int .i64 (i : Int), .string s, .func (.yield l) #[] #[]] W fun e W' =>
      (e = .returned (.bool true) ∧ J (pre ++ tell P wd d s) W' ∧ Below wn.heap.size W W' ∧ KeepGE B W W') ∨ (e = .returned (.bool false) ∧ ∃ q, q <+: tell P wd d s ∧ Jx (pre ++ q) W' ∧ KeepGE B W W') := by
  intro d
  induction d with
  | zero =>
    intro i s pre W hi hl _ _ _ _
    have := h6 _ (List.mem_of_getElem? hi)
    omega
  | succ d ih =>
    intro i s pre W hi hl hbW hBW hJp hPT
    have HPT := Aside0.mk hPT
    have HI := Aside0.mk hi
    have HT := Aside0.mk hT
    have HIH := Aside0.mk ih
    have HL := Aside0.mk hl
    have HW := Aside0.mk (And.intro hbW (And.intro hBW hB))
    have HJ := Aside0.mk (And.intro hJ (And.intro hJx hJp))
    have HY := Aside0.mk hY
    have hil := (List.getElem?_eq_some_iff.1 hi).1
    obtain ⟨wv, iv, hwv, hown⟩ : ∃ (wv : Int) (iv : Bool), wordV P wd (i : Int) = (wv, iv) ∧ own1 P wd s = if iv then [(s, wv)] else [] := by
      unfold wordV own1
      rw [if_pos (by omega), Int.toNat_natCast, pos_at hT.good.nd hi]
      by_cases h : wd.getD i 0 = -1
      · exact ⟨0, false, by rw [if_pos h], by simp only [h, if_pos]; rfl⟩
      · exact ⟨wd.getD i 0, true, by rw [if_neg h], by simp only [h, if_neg, not_false_iff]; rfl⟩
    have HO := Aside0.mk hown
    have HWV := Aside0.mk hwv
    have HTW := Aside0.mk (hT.below hbW)
    have HB := Aside0.mk (Below.refl W.heap.size W)
    clear hi hT ih hl hbW hBW hB hJ hJx hJp hY hil hPT hwv hown
    refine (callsIn_wide (n := 9)).1 ?_
    refine callsIn_of_wp_marks Try.func29 rfl trivial ?_ rfl
    refine (wpIn_wide (n := 9)).2 ?_
    simp only [Try.ntmps29, List.size_toArray, List.length_cons, List.length_nil, Nat.reduceAdd, Nat.reduceSub, Array.replicate_succ, Array.replicate_zero, List.push_toArray, List.append_toArray, List.nil_append, List.cons_append]
    go_wp2_with fail
    go_step3
    go_upto_region 2 with (first | (go_at_call 22; (with_reducible refine (word_calls ((HTW.out.below (bl HB.out : Below W.heap.size W (((W.alloc (.cells #[.pointer (some ⟨gt, 0, none⟩)] 25)).alloc (.cells #[.string s] 9)).alloc (.cells #[.func (.yield l) #[] #[]] 59))))) (i : Int)).mono ?_); rintro e w' ⟨rfl, ⟨q, rfl⟩⟩; rw [HWV.out]))
    obtain ⟨X, hX⟩ : ∃ X, ((((W.alloc (.cells #[.pointer (some ⟨gt, 0, none⟩)] 25)).alloc (.cells #[.string s] 9)).alloc (.cells #[.func (.yield l) #[] #[]] 59)).drewN q) = X := ⟨_, rfl⟩
    have hXB : Below W.heap.size W X := by rw [← hX]; exact bl HB.out
    have hBx : Bx gt s l W.heap.size (W.heap.size + 1) (W.heap.size + 1 + 1) X := by
      rw [← hX]
      refine ⟨blk_drewN (blk_alloc (blk_alloc (heap_alloc_new W _) _) _) q, blk_drewN (blk_alloc ?_ _) q, blk_drewN ?_ q⟩
      · have h_ := heap_alloc_new (W.alloc (.cells #[.pointer (some ⟨gt, 0, none⟩)] 25)) (.cells #[.string s] 9)
        rw [World.size_alloc] at h_; exact h_
      · have h_ := heap_alloc_new ((W.alloc (.cells #[.pointer (some ⟨gt, 0, none⟩)] 25)).alloc (.cells #[.string s] 9)) (.cells #[.func (.yield l) #[] #[]] 59)
        rw [World.size_alloc, World.size_alloc] at h_; exact h_
    have HX := Aside0.mk (And.intro hXB hBx)
    have cY := hc1 hBx.y
    have cS := hc1 hBx.s
    rw [hX]
    clear hX hXB hBx HB
    go_cut [8, 27] from 14 (fun v8 v27 wc => v8 = .bool false ∧ ((v27 = .bool false ∧ Aside0 (J (pre ++ own1 P wd s) wc ∧ Bx gt s l W.heap.size (W.heap.size + 1) (W.heap.size + 1 + 1) wc ∧ Below wn.heap.size W wc ∧ KeepGE B W wc)) ∨ (v27 = .bool true ∧ Aside0 (Jx (pre ++ own1 P wd s) wc ∧ KeepGE B W wc))))
    case first =>
      cases iv with
      | false =>
        go_wp2_with fail
        go_meet
        case rel =>
          refine ⟨rfl, .inl ⟨rfl, ⟨?_, HX.out.2, HX.out.1.mono (Nat.le_trans HW.out.2.2 HW.out.2.1), KeepGE.of_below HX.out.1⟩⟩⟩
          rw [HO.out, if_neg (by decide), List.append_nil]
          exact HJ.out.1 _ _ _ none HJ.out.2.2 (below_grown' HX.out.1) (fun r e => by cases e)
      | true =>
        have hJX := HJ.out.1 _ _ _ none HJ.out.2.2 (below_grown' HX.out.1) (fun r e => by cases e)
        obtain ⟨fn, tmps, assign, body, hy, hR⟩ := HY.out (9 - 1) pre (s, wv) X hJX (List.IsPrefix.trans (by
          show pre ++ [(s, wv)] <+: pre ++ (own1 P wd s ++ _)
          rw [HO.out, if_pos rfl, ← List.append_assoc]
          exact List.prefix_append _ _) HPT.out)
        dsimp only at hy hR
        clear hJX
        refine (wpIn_wide (n := 9)).1 ?_
        gi_wp2
        refine hR.mono ?_
        clear hy hR
        rintro e X2 (⟨rfl, hJ2, hb2, hk2⟩ | ⟨rfl, hx2, hk2⟩)
        · gi_wp2
          go_wp2_with fail
          go_meet
          case rel =>
            refine ⟨rfl, .inl ⟨rfl, ⟨?_, HX.out.2.keep hk2 ⟨HW.out.2.1, by have := HW.out.2.1; omega, by have := HW.out.2.1; omega⟩, (HX.out.1.mono (Nat.le_trans HW.out.2.2 HW.out.2.1)).trans hb2, (KeepGE.of_below HX.out.1).trans hk2⟩⟩⟩
            rw [HO.out]
            simpa using hJ2
        · gi_wp2
          go_wp2_with fail
          go_meet
          case rel =>
            refine ⟨rfl, .inr ⟨rfl, ⟨?_, (KeepGE.of_below HX.out.1).trans hk2⟩⟩⟩
            rw [HO.out]
            simpa using hx2
    case rest =>
      obtain ⟨rfl, ⟨rfl, HC⟩ | ⟨rfl, HC⟩⟩ := hcut
      rotate_left
      · go_wp2_with fail
        rw [Exit.noGoto_ret]
        refine ⟨.bool false, ?_, .inr ⟨rfl, own1 P wd s, ⟨_, rfl⟩, HC.out.1, HC.out.2⟩⟩
        simp [results, Try.f29, go_sem]
      clear HX cY cS HO HWV
      have cT := hc1 HC.out.2.1.t
      go_wp2_with fail
      obtain ⟨w1, hw1, hb1, hb2⟩ := new_box' wc (.bool true) 4
      rw [hw1]
      obtain ⟨b4, hb4⟩ : ∃ b4, wc.heap.size = b4 := ⟨_, rfl⟩
      rw [hb4] at hb1 ⊢
      have hz : W.heap.size ≤ wc.heap.size := HC.out.2.2.2.size
      have h3 := blk_lt HC.out.2.1.y
      have HC1 := Aside0.mk (And.intro (HJ.out.1 _ _ _ none HC.out.1 (below_grown' hb2) (fun r e => by cases e)) (And.intro (HC.out.2.1.keep (B := B) (KeepGE.of_below hb2) ⟨HW.out.2.1, by have := HW.out.2.1; omega, by have := HW.out.2.1; omega⟩) (And.intro (HC.out.2.2.1.trans (hb2.mono (Nat.le_trans HW.out.2.2 (Nat.le_trans HW.out.2.1 hz)))) (HC.out.2.2.2.trans (KeepGE.of_below hb2)))))
      have HO4 := Aside0.mk hb1
      have HZ := Aside0.mk (And.intro (show W.heap.size + 1 + 1 < b4 by omega) (show B ≤ b4 by have := HW.out.2.1; omega))
      clear cT hw1 hb1 hb2 hb4 hz h3 HC
      have cT := hc1 HC1.out.2.1.t
      go_step3
      go_wp2_with (first | (go_at_call 18; (with_reducible refine (children_new gt (i : Int) _).mono ?_); rintro e w2 ⟨ct, cn, rfl, hct, hcn, hbt, hbn, hb⟩))
      have HC2 := Aside0.mk (And.intro (HJ.out.1 _ _ _ none HC1.out.1 (below_grown' hb) (fun r e => by cases e)) (And.intro (HC1.out.2.1.keep (B := B) (KeepGE.of_below hb) ⟨HW.out.2.1, by have := HW.out.2.1; omega, by have := HW.out.2.1; omega⟩) (And.intro (HC1.out.2.2.1.trans (hb.mono (Nat.le_trans HW.out.2.2 (Nat.le_trans HW.out.2.1 HC1.out.2.2.2.size)))) (HC1.out.2.2.2.trans (KeepGE.of_below hb)))))
      have HO5 := Aside0.mk (blk_below HO4.out hb)
      have HCH := Aside0.mk (And.intro hbt hbn)
      have HBN := Aside0.mk (HW.out.1.trans HC2.out.2.2.1)
      have hil := (List.getElem?_eq_some_iff.1 HI.out).1
      have LT := Aside0.mk (And.intro (blk_lt HC2.out.2.1.t) (And.intro (blk_lt HC2.out.2.1.s) (And.intro (blk_lt HC2.out.2.1.y) (blk_lt HO5.out))))
      have SZ := Aside0.mk (And.intro (show B ≤ w2.heap.size from Nat.le_trans HW.out.2.1 HC2.out.2.2.2.size) (And.intro (show W.heap.size ≤ w2.heap.size from HC2.out.2.2.2.size) (show wn.heap.size ≤ w2.heap.size from HBN.out.size)))
      clear cT HC1 HO4 hct hcn hbt hbn hb
      refine (wpIn_wide (n := 9)).1 ?_
      refine wpIn_rangeFunc_W (by omega) (gf := 24) (lb := #[.pointer (some ⟨ct, 0, none⟩), .pointer (some ⟨cn, 0, none⟩)]) rfl (enters_of Try.func24 (by kernel_rfl) rfl)
        (children_stopsW HT.out i hil (strOf s) HI.out 8 (by omega) ct cn w2 HBN.out HCH.out.1 HCH.out.2) SZ.out.2.2 (Below.refl _ _) (fun _ => rfl)
        (fun ys W' => J (pre ++ own1 P wd s ++ ys.flatMap (fun y => tell P wd d (s ++ ⟨#[byteOf y.1.1]⟩))) W' ∧ Bx gt s l W.heap.size (W.heap.size + 1) (W.heap.size + 1 + 1) W' ∧ Below wn.heap.size W W' ∧ KeepGE B W W' ∧ W'.heap[b4]? = some (.cells #[.bool true] 4 (0, 0)))
        (fun cc ys W' => cc = .exit 0 ∧ (∃ q, q <+: ys.flatMap (fun y => tell P wd d (s ++ ⟨#[byteOf y.1.1]⟩)) ∧ Jx (pre ++ own1 P wd s ++ q) W') ∧ KeepGE B W W' ∧ W'.heap[b4]? = some (.cells #[.bool false] 4 (0, 0)))
        ?own ?ownx ⟨by simpa using HC2.out.1, HC2.out.2.1, HC2.out.2.2.1, HC2.out.2.2.2, HO5.out⟩ ?a1 ?assign ?body ?done ?stop
      case own =>
        rintro ys A A' row ⟨h1, h2, h3, h4, h5⟩ hg hr
        have ob : ∀ {k : Nat} {o : Obj}, k < w2.heap.size → A.heap[k]? = some o → A'.heap[k]? = some o := fun hk h => (hg.block _ (blk_lt h) (fun e => by have := hr _ e.symm; omega)).trans h
        exact ⟨HJ.out.1 _ _ _ row h1 hg (fun r e => Nat.le_trans SZ.out.1 (hr r e)), ⟨ob LT.out.1 h2.t, ob LT.out.2.1 h2.s, ob LT.out.2.2.1 h2.y⟩, h3.grown hg (Nat.le_trans HW.out.2.2 (Nat.le_trans HW.out.2.1 h4.size)) (fun k e => Nat.le_trans SZ.out.2.2 (hr k e)), h4.own hg (fun r e => Nat.le_trans SZ.out.2.1 (hr r e)), ob LT.out.2.2.2 h5⟩
      case ownx =>
        rintro cc ys A A' row ⟨h1, ⟨q, h2, h3⟩, h4, h5⟩ hg hr
        have ob : ∀ {k : Nat} {o : Obj}, k < w2.heap.size → A.heap[k]? = some o → A'.heap[k]? = some o := fun hk h => (hg.block _ (blk_lt h) (fun e => by have := hr _ e.symm; omega)).trans h
        exact ⟨h1, ⟨q, h2, HJ.out.2.1 _ _ _ row h3 hg (fun r e => Nat.le_trans SZ.out.1 (hr r e))⟩, h4.own hg (fun r e => Nat.le_trans SZ.out.2.1 (hr r e)), ob LT.out.2.2.2 h5⟩
      case assign =>
        intro l' y W' K hK
        gi_wp2
        exact hK
      case stop =>
        rintro D cc ys W' hD hS ⟨rfl, ⟨q, hq, hx⟩, hk, ho⟩ hKD
        have HE := Aside0.mk (And.intro hD (And.intro hS (And.intro hq (And.intro hx (And.intro hk hKD)))))
        have c4_ := hc1 ho
        clear hD hS hq hx hk hKD ho
        refine (wpIn_wide (n := 9)).2 ?_
        go_wp2_with fail
        rw [Exit.noGoto_ret]
        have g1 := grownBy_putObj' W' D (.deferred none)
        refine ⟨by simp, .inl ⟨_, _, rfl, run_takeDeferred HE.out.2.2.2.2.2, ?_⟩⟩
        refine ⟨.bool false, ?_, .inr ⟨rfl, own1 P wd s ++ q, ?_, ?_, ?_⟩⟩
        · simp [results, Try.f29, go_sem]
        · refine (List.prefix_append_right_inj _).2 (HE.out.2.2.1.trans ?_)
          obtain ⟨T0, hT0⟩ := HE.out.2.1
          rw [← hT0, List.flatMap_append, List.flatMap_map]
          exact List.prefix_append _ _
        · rw [← List.append_assoc]
          exact HJ.out.2.1 _ _ _ _ HE.out.2.2.2.1 g1 (fun r e => by cases e; exact Nat.le_trans SZ.out.1 HE.out.1)
        · exact HE.out.2.2.2.2.1.own g1 (fun r e => by cases e; exact Nat.le_trans SZ.out.2.1 HE.out.1)
      case done =>
        rintro D ys W' hD hS ⟨h1, h2, h3, h4, h5⟩ hKD
        have HE := Aside0.mk (And.intro hD (And.intro hS (And.intro h1 (And.intro h3 (And.intro h4 hKD)))))
        have c4_ := hc1 h5
        clear hD hS h1 h2 h3 h4 h5 hKD
        go_wp2_with fail
        rw [Exit.noGoto_ret]
        have g1 := grownBy_putObj' W' D (.deferred none)
        refine ⟨by simp, .inl ⟨_, _, rfl, run_takeDeferred HE.out.2.2.2.2.2, ?_⟩⟩
        refine ⟨.bool true, ?_, .inl ⟨rfl, ?_, ?_, ?_⟩⟩
        · simp [results, Try.f29, go_sem]
        · have e : pre ++ tell P wd (d + 1) s = pre ++ own1 P wd s ++ ys.flatMap (fun y => tell P wd d (s ++ ⟨#[byteOf y.1.1]⟩)) := by
            rw [List.append_assoc]
            show pre ++ (own1 P wd s ++ (kidsC (kidF P (strOf s))).flatMap _) = _
            rw [← HE.out.2.1, List.flatMap_map]
          rw [e]
          exact HJ.out.1 _ _ _ _ HE.out.2.2.1 g1 (fun r e => by cases e; exact Nat.le_trans SZ.out.1 HE.out.1)
        · exact HE.out.2.2.2.1.grown g1 (Nat.le_trans HW.out.2.2 (Nat.le_trans HW.out.2.1 HE.out.2.2.2.2.1.size)) (fun k e => by cases e; exact Nat.le_trans SZ.out.2.2 HE.out.1)
        · exact HE.out.2.2.2.2.1.own g1 (fun r e => by cases e; exact Nat.le_trans SZ.out.2.1 HE.out.1)
      case body =>
        rintro l' ys y W' ⟨h1, h2, h3, h4, h5⟩ hsp
        have hpt : pre ++ own1 P wd s ++ (ys ++ [y]).flatMap (fun y => tell P wd d (s ++ ⟨#[byteOf y.1.1]⟩)) <+: T := by
          refine List.IsPrefix.trans ?_ HPT.out
          show _ <+: pre ++ (own1 P wd s ++ (kidsC (kidF P (strOf s))).flatMap _)
          obtain ⟨T0, hT0⟩ := hsp
          have e : (kidsC (kidF P (strOf s))).flatMap (fun c => tell P wd d (s ++ ⟨#[byteOf c]⟩)) = (ys ++ [y]).flatMap (fun y => tell P wd d (s ++ ⟨#[byteOf y.1.1]⟩)) ++ T0.flatMap (fun c => tell P wd d (s ++ ⟨#[byteOf c]⟩)) := by
            have e2 := congrArg (fun l => l.flatMap (fun c => tell P wd d (s ++ ⟨#[byteOf c]⟩))) hT0.symm
            simp only [List.flatMap_append (xs := (ys ++ [y]).map _)] at e2
            rw [List.flatMap_map] at e2
            exact e2
          rw [e, ← List.append_assoc, ← List.append_assoc]
          exact List.prefix_append _ _
        rw [List.flatMap_append, List.flatMap_singleton, ← List.append_assoc] at hpt
        have HPY := Aside0.mk hpt
        clear hpt hsp
        obtain ⟨⟨c, k⟩, hc0, hc1_, hk⟩ := y
        simp only at hc0 hc1_ hk
        have hPk : P[k]? = some (strOf (s ++ ⟨#[byteOf c]⟩)) := by rw [strOf_push]; exact (pos_some _ _ _ hk).1
        have hlk : (strOf (s ++ ⟨#[byteOf c]⟩)).length + d = 7 := by have := HL.out; rw [strOf_push, List.length_append, List.length_singleton]; omega
        have HK := Aside0.mk (And.intro hPk hlk)
        have HIN := Aside0.mk (And.intro h1 (And.intro h2 (And.intro h3 (And.intro h4 h5))))
        have c1_ := hc1 h2.t
        have c2_ := hc1 h2.s
        have c3_ := hc1 h2.y
        have c4_ := hc1 h5
        have f4_ := blk_frozen h5 0
        have hcv := byte_string W' c hc0 hc1_
        have hsz : s.size ≤ 6 := by have := HL.out; rw [strOf_len] at this; omega
        have hl1 : wrap64 ((s.size : Int) + 1) = (s.size : Int) + 1 := w64s (by omega) (by omega)
        have hq9 := eq_false (show ¬ 9223372036854775807 < s.size + 1 by omega)
        have c3a := hc1 (blk_alloc h2.y (.cells #[.int .u8 c] 5))
        clear hPk hlk h1 h2 h3 h4 h5 hsz
        have hb2 := below_alloc (Below.refl W'.heap.size W') (.cells #[.int .u8 c] 5)
        have hcall := HIH.out k (s ++ ⟨#[byteOf c]⟩) (pre ++ own1 P wd s ++ ys.flatMap (fun y => tell P wd d (s ++ ⟨#[byteOf y.1.1]⟩))) (W'.alloc (.cells #[.int .u8 c] 5)) HK.out.1 HK.out.2 (HW.out.1.trans (HIN.out.2.2.1.trans (hb2.mono (Nat.le_trans HW.out.2.2 (Nat.le_trans HW.out.2.1 HIN.out.2.2.2.1.size))))) (Nat.le_trans HW.out.2.1 (Nat.le_trans HIN.out.2.2.2.1.size hb2.size)) (HJ.out.1 _ _ _ none HIN.out.1 (below_grown' hb2) (fun r e => by cases e)) HPY.out
        have HCALL := Aside0.mk hcall
        have HB2 := Aside0.mk hb2
        clear hcall hb2
        gi_wp2_with (fail)
        refine ⟨trivial, ?_⟩
        refine (CallsIn.inRound l' (callsIn_wide.2 HCALL.out)).mono ?_
        clear c1_ c2_ c3_ c4_ f4_ hcv hl1 hq9 c3a HCALL
        rintro e W3 (⟨rfl, hJ3, hb3, hk3⟩ | ⟨rfl, q, hq, hx3, hk3⟩)
        · have HJ3 := Aside0.mk (And.intro hJ3 (And.intro hb3 hk3))
          have hO3 := hk3.same _ _ HZ.out.2 (blk_below HIN.out.2.2.2.2 HB2.out)
          have HO3 := Aside0.mk hO3
          have c4_ := hc1 hO3
          have f4_ := blk_frozen hO3 0
          clear hJ3 hb3 hk3 hO3
          gi_wp2
          have hkx : ∀ (k : Nat) (o : Obj), B ≤ k → k ≠ b4 → W'.heap[k]? = some o → (W3.setCell ⟨b4, 0, none⟩ (.bool true)).heap[k]? = some o := fun k o h1 h2 h3 => (Below.heap_setCell _ _ _ _ h2).trans (HJ3.out.2.2.same _ _ h1 (blk_below h3 HB2.out))
          have hsz : W'.heap.size ≤ (W3.setCell ⟨b4, 0, none⟩ (.bool true)).heap.size := Nat.le_trans HB2.out.size (Nat.le_trans HJ3.out.2.2.size (grownBy_setCell' W3 ⟨b4, 0, none⟩ (.bool true)).size)
          have hbx : Below wn.heap.size W' (W3.setCell ⟨b4, 0, none⟩ (.bool true)) := (((HB2.out.mono (Nat.le_trans HW.out.2.2 (Nat.le_trans HW.out.2.1 HIN.out.2.2.2.1.size))).trans HJ3.out.2.1)).setCell (p := ⟨b4, 0, none⟩) (show wn.heap.size ≤ b4 by have := HW.out.2.2; have := HZ.out.2; omega) _
          refine ⟨⟨hsz, fun k o h1 h2 => hkx k o (Nat.le_trans SZ.out.1 h1) (by have := LT.out; omega) h2⟩, hbx, ?_, ?_, HIN.out.2.2.1.trans hbx, ⟨Nat.le_trans HIN.out.2.2.2.1.size hsz, fun k o h1 h2 => hkx k o h1 (by have := HZ.out.1; have := blk_lt h2; omega) (HIN.out.2.2.2.1.same k o h1 h2)⟩, p1_0 HO3.out⟩
          · rw [List.flatMap_append, List.flatMap_singleton, ← List.append_assoc]
            exact HJ.out.1 _ _ _ _ HJ3.out.1 (grownBy_setCell' W3 ⟨b4, 0, none⟩ (.bool true)) (fun r e => by cases e; exact HZ.out.2)
          · exact ⟨hkx _ _ HW.out.2.1 (by have := HZ.out.1; omega) HIN.out.2.1.t, hkx _ _ (by have := HW.out.2.1; omega) (by have := HZ.out.1; omega) HIN.out.2.1.s, hkx _ _ (by have := HW.out.2.1; omega) (by have := HZ.out.1; omega) HIN.out.2.1.y⟩
        · have HJ3 := Aside0.mk (And.intro hx3 (And.intro hq hk3))
          have hO3 := hk3.same _ _ HZ.out.2 (blk_below HIN.out.2.2.2.2 HB2.out)
          have HO3 := Aside0.mk hO3
          have c4_ := hc1 hO3
          have f4_ := blk_frozen hO3 0
          clear hx3 hq hk3 hO3
          gi_wp2
          have hkx : ∀ (k : Nat) (o : Obj), B ≤ k → k ≠ b4 → W'.heap[k]? = some o → (W3.setCell ⟨b4, 0, none⟩ (.bool false)).heap[k]? = some o := fun k o h1 h2 h3 => (Below.heap_setCell _ _ _ _ h2).trans (HJ3.out.2.2.same _ _ h1 (blk_below h3 HB2.out))
          have hsz : W'.heap.size ≤ (W3.setCell ⟨b4, 0, none⟩ (.bool false)).heap.size := Nat.le_trans HB2.out.size (Nat.le_trans HJ3.out.2.2.size (grownBy_setCell' W3 ⟨b4, 0, none⟩ (.bool false)).size)
          refine ⟨⟨hsz, fun k o h1 h2 => hkx k o (Nat.le_trans SZ.out.1 h1) (by have := LT.out; omega) h2⟩, rfl, ⟨ys.flatMap (fun y => tell P wd d (s ++ ⟨#[byteOf y.1.1]⟩)) ++ q, ?_, ?_⟩, ⟨Nat.le_trans HIN.out.2.2.2.1.size hsz, fun k o h1 h2 => hkx k o h1 (by have := HZ.out.1; have := blk_lt h2; omega) (HIN.out.2.2.2.1.same k o h1 h2)⟩, p1_0 HO3.out⟩
          · rw [List.flatMap_append, List.flatMap_singleton]
            exact (List.prefix_append_right_inj _).2 HJ3.out.2.1
          · rw [← List.append_assoc]
            exact HJ.out.2.1 _ _ _ _ HJ3.out.1 (grownBy_setCell' W3 ⟨b4, 0, none⟩ (.bool false)) (fun r e => by cases e; exact HZ.out.2)
end Go.Proofs.Ytgdipibmaaehcaa.Tr
