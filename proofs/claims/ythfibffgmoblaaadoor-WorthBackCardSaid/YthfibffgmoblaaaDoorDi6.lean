/- dims.Text: the text of dims. Its conditions: the table of tens as it was laid. -/
import Derived.Test.YthfibffgmoblaaaDoorBuL
import Derived.Test.YthfibffgmoblaaaDoorShelf
import Derived.Test.YthfibffgmoblaaaDoorGlob
import Derived.Lib.AppendIntMem
import Derived.Lib.ItoaLen
namespace Go.Proofs.YthfibffgmoblaaaDoor.Di
open Go Go.RowKit Go.Shelf Go.Proofs Go.Proofs.YthfibffgmoblaaaDoor.Bu
attribute [local go_sem] Oper.semAt_some
set_option linter.unusedVariables false
set_option linter.unusedSimpArgs false
theorem tab10 {w : World} {l : List Nat} (hG : Glob l w) (hs : l.contains 2 = true) : Lib.TabIs Tryd.prog w "internal/strconv.uint64pow10" .u64 Lib.pow10Tab := by
  obtain ⟨t, h⟩ := hG.v2 hs
  unfold Lib.TabIs World.var?
  rw [show Tryd.prog.globalNamed "internal/strconv.uint64pow10" = some 2 from by kernel_rfl, Option.bind_some, h]
  exact congrArg some (by kernel_rfl)
def letter (i : Nat) : UInt8 := [109, 115, 103, 114, 107, 99, 100][i]?.getD 0
def dtx (l : List (Nat × Int)) : List UInt8 := l.flatMap fun x => letter x.1 :: Lib.itoa x.2
theorem dtx_snoc (l : List (Nat × Int)) (x : Nat × Int) : dtx (l ++ [x]) = dtx l ++ [letter x.1] ++ Lib.itoa x.2 := by simp [dtx]
set_option maxRecDepth 100000 in
theorem index_letter (k : Nat) (hk : k < 7) (W : World) : (Instr.index 9 (.string { data := #[109, 115, 103, 114, 107, 99, 100] }) (.int .i64 (k : Int))).run Tryd.prog W = .ok (.int .u8 ((letter k).toNat : Int)) W := by
  have h : k = 0 ∨ k = 1 ∨ k = 2 ∨ k = 3 ∨ k = 4 ∨ k = 5 ∨ k = 6 := by omega
  rcases h with rfl | rfl | rfl | rfl | rfl | rfl | rfl <;> first | kernel_rfl | rfl
theorem allR_at (a : List Int) (h : allR a = true) (i : Nat) : -99 ≤ a[i]?.getD 0 ∧ a[i]?.getD 0 ≤ 99 := by
  by_cases hi : i < a.length
  · rw [List.getElem?_eq_getElem hi]
    have := List.all_eq_true.1 h a[i] (List.getElem_mem hi)
    simpa using this
  · rw [List.getElem?_eq_none (by omega)]
    exact ⟨by decide, by decide⟩
theorem grow_kept (w : World) (k : Nat) (os : Array Obj) : w.grownBy (Sort.grow (w.drewN k) os) none := ⟨rfl, rfl, rfl, Lib.size_grow w k os, fun i hi _ => Lib.heap_grow_old w k os i hi⟩
theorem box_after (a0 a1 a2 a3 a4 a5 a6 : Int) (w w1 : World) (hB1 : Below (w.alloc (.cells #[.int .i64 a0, .int .i64 a1, .int .i64 a2, .int .i64 a3, .int .i64 a4, .int .i64 a5, .int .i64 a6] 23)).heap.size (w.alloc (.cells #[.int .i64 a0, .int .i64 a1, .int .i64 a2, .int .i64 a3, .int .i64 a4, .int .i64 a5, .int .i64 a6] 23)) w1) :
    (Below w.heap.size w w1 ∧ Below w.heap.size w (w1.alloc (.cells #[.pointer none, .slice none 0 0] 85))) ∧ (w1.alloc (.cells #[.pointer none, .slice none 0 0] 85)).cell? ⟨w.heap.size, 0, none⟩ = some (.int .i64 a0) ∧ (w1.alloc (.cells #[.pointer none, .slice none 0 0] 85)).cell? ⟨w.heap.size, 1, none⟩ = some (.int .i64 a1) ∧ (w1.alloc (.cells #[.pointer none, .slice none 0 0] 85)).cell? ⟨w.heap.size, 2, none⟩ = some (.int .i64 a2) ∧ (w1.alloc (.cells #[.pointer none, .slice none 0 0] 85)).cell? ⟨w.heap.size, 3, none⟩ = some (.int .i64 a3) ∧ (w1.alloc (.cells #[.pointer none, .slice none 0 0] 85)).cell? ⟨w.heap.size, 4, none⟩ = some (.int .i64 a4) ∧ (w1.alloc (.cells #[.pointer none, .slice none 0 0] 85)).cell? ⟨w.heap.size, 5, none⟩ = some (.int .i64 a5) ∧ (w1.alloc (.cells #[.pointer none, .slice none 0 0] 85)).cell? ⟨w.heap.size, 6, none⟩ = some (.int .i64 a6) := by
  have hlt : w.heap.size + 1 ≤ w1.heap.size := by have := hB1.size; rw [World.size_alloc] at this; exact this
  have hB : Below w.heap.size w w1 := ((Below.refl _ w).alloc (Nat.le_refl _) _).trans (hB1.mono (by rw [World.size_alloc]; omega))
  have b1 : w1.heap[w.heap.size]? = some (.cells (seven a0 a1 a2 a3 a4 a5 a6) 23 (0, 0)) := (hB1.block _ (by rw [World.size_alloc]; omega)).trans (blk_new_ w _)
  have b2 : (w1.alloc (.cells #[.pointer none, .slice none 0 0] 85)).heap[w.heap.size]? = some (.cells (seven a0 a1 a2 a3 a4 a5 a6) 23 (0, 0)) := (Lib.alloc_old w1 _ _ (by omega)).trans b1
  have c : ∀ i, (w1.alloc (.cells #[.pointer none, .slice none 0 0] 85)).cell? ⟨w.heap.size, i, none⟩ = (seven a0 a1 a2 a3 a4 a5 a6)[i]? := fun i => cell_of_row _ w.heap.size i _ _ (0, 0) b2
  exact ⟨⟨hB, hB.alloc hB.size _⟩, (c 0).trans rfl, (c 1).trans rfl, (c 2).trans rfl, (c 3).trans rfl, (c 4).trans rfl, (c 5).trans rfl, (c 6).trans rfl⟩
/-- The builder b holds the bytes l, of at most 22 a round. -/
def TI (b n : Nat) (l : List UInt8) (W : World) : Prop := Lib.IsBuilderF 85 5 b b (Lib.byteCells l) W ∧ l.length ≤ 22 * n
theorem TI.kept {b n : Nat} {l : List UInt8} {X Y : World} {row : Option Nat} (h : TI b n l X) (hg : X.grownBy Y row) (hr : ∀ r, row = some r → ∃ o : Obj, X.heap[r]? = some o ∧ o.isCells = false) : TI b n l Y := ⟨is_kept h.1 hg hr, h.2⟩
theorem own_TI (b : Nat) (a : List Int) : Own (fun (pre : List (At7 a)) W => TI b pre.length (dtx (pre.map Subtype.val)) W) := fun s A B row hs hg hr => TI.kept hs hg hr
set_option maxRecDepth 100000 in
set_option maxHeartbeats 4000000 in
theorem text_calls (a0 a1 a2 a3 a4 a5 a6 : Int) (w : World) (hG : Glob [2] w) :
    Calls Tryd.prog 22 #[.agg #[.int .i64 a0, .int .i64 a1, .int .i64 a2, .int .i64 a3, .int .i64 a4, .int .i64 a5, .int .i64 a6]] w fun e w' =>
      e = .returned (.string (if allR [a0, a1, a2, a3, a4, a5, a6] = true then ⟨(dtx (nz [a0, a1, a2, a3, a4, a5, a6] 7)).toArray⟩ else ⟨#[]⟩)) ∧ Below w.heap.size w w' := by
  refine (callsIn_wide (n := 9)).1 ?_
  refine callsIn_of_wp_marks Tryd.func22 rfl trivial ?_ rfl
  simp only [Tryd.ntmps22, List.size_toArray, List.length_cons, List.length_nil, Nat.reduceAdd, Nat.reduceSub, Array.replicate_succ, Array.replicate_zero, List.push_toArray, List.append_toArray, List.nil_append, List.cons_append]
  cases hR : allR [a0, a1, a2, a3, a4, a5, a6]
  · gi_wp2_with (refine ⟨trivial, ?_⟩; gi_at_call 48; refine (right_in Fence.wide 8 trivial trivial trivial rfl (by omega) a0 a1 a2 a3 a4 a5 a6 _).mono ?_; rintro e w1 ⟨rfl, hB1⟩; rw [hR])
    have hB : Below w.heap.size w w1 := ((Below.refl _ w).alloc (Nat.le_refl _) _).trans (hB1.mono (by rw [World.size_alloc]; omega))
    exact ⟨_, results_tmp rfl _ _ _, by simp, hB⟩
  · gi_wp2_with (first
      | (refine ⟨trivial, ?_⟩; gi_at_call 48; refine (right_in Fence.wide 8 trivial trivial trivial rfl (by omega) a0 a1 a2 a3 a4 a5 a6 _).mono ?_; rintro e w1 ⟨rfl, hB1⟩; rw [hR]; obtain ⟨⟨hB, hB2⟩, c0, c1, c2, c3, c4, c5, c6⟩ := box_after a0 a1 a2 a3 a4 a5 a6 w w1 hB1; clear hB1)
      | (refine ⟨trivial, ?_⟩; gi_at_call 53; refine (each_in Fence.wide 8 trivial rfl a0 a1 a2 a3 a4 a5 a6 _).mono ?_; rintro e w' ⟨rfl, rfl⟩))
    have hI0 : TI w1.heap.size 0 [] ((w1.alloc (.cells #[.pointer none, .slice none 0 0] 85)).alloc (.cells (seven a0 a1 a2 a3 a4 a5 a6) 23)) := ⟨(Lib.IsBuilderF.of (Lib.fresh_isBuilder 85 5 w1)).alloc _, Nat.le_refl _⟩
    have hB3 : Below w.heap.size w ((w1.alloc (.cells #[.pointer none, .slice none 0 0] 85)).alloc (.cells (seven a0 a1 a2 a3 a4 a5 a6) 23)) := hB2.alloc hB2.size _
    have hs3 : ((w1.alloc (.cells #[.pointer none, .slice none 0 0] 85)).alloc (.cells (seven a0 a1 a2 a3 a4 a5 a6) 23)).heap.size = w1.heap.size + 2 := by rw [World.size_alloc, World.size_alloc]
    have bE := blk_new_ (w1.alloc (.cells #[.pointer none, .slice none 0 0] 85)) (.cells (seven a0 a1 a2 a3 a4 a5 a6) 23)
    rw [World.size_alloc] at bE
    have hle : w.heap.size ≤ w1.heap.size := hB.size
    clear hB hB2 c0 c1 c2 c3 c4 c5 c6
    obtain ⟨b, hb⟩ : ∃ b, w1.heap.size = b := ⟨_, rfl⟩
    obtain ⟨W3, hW3⟩ : ∃ W3, (w1.alloc (.cells #[.pointer none, .slice none 0 0] 85)).alloc (.cells (seven a0 a1 a2 a3 a4 a5 a6) 23) = W3 := ⟨_, rfl⟩
    rw [hW3] at hI0 hB3 hs3 bE ⊢
    rw [hb] at hI0 hs3 bE hle ⊢
    clear hW3 hb
    refine wpIn_rangeFunc_ownG rfl (by omega) (gf := 81) (lb := #[.pointer (some ⟨b + 1, 0, none⟩)]) rfl trivial (enters_of Tryd.func81 (by kernel_rfl) rfl)
      (each_stops2 Fence.wide 8 trivial rfl (by omega) (b + 1) w.heap.size a0 a1 a2 a3 a4 a5 a6 _ (by omega) (by omega) bE) belowK_t (belowK_b (by omega)) (Below.refl _ _) (fun _ => rfl)
      (fun pre W => TI b pre.length (dtx (pre.map Subtype.val)) W ∧ Below w.heap.size w W)
      (fun _ _ _ => False)
      (OwnFrom.and (Own.from (own_TI b _) _) (ownFrom_below (Nat.le_refl _) (by omega)))
      (fun c => fun _ _ _ _ hs _ _ => hs)
      ⟨hI0, hB3⟩
      (fun x => { tmps := #[.agg #[.int .i64 a0, .int .i64 a1, .int .i64 a2, .int .i64 a3, .int .i64 a4, .int .i64 a5, .int .i64 a6], .pointer (some ⟨w.heap.size, 0, none⟩), .string ⟨#[]⟩, .pointer (some ⟨b, 0, none⟩), .int .i64 (x.1.1 : Int), .int .i64 x.1.2, .agg #[.int .i64 a0, .int .i64 a1, .int .i64 a2, .int .i64 a3, .int .i64 a4, .int .i64 a5, .int .i64 a6], .bool true, .bool false, .agg #[.int .i64 a0, .int .i64 a1, .int .i64 a2, .int .i64 a3, .int .i64 a4, .int .i64 a5, .int .i64 a6], .func (.func 81) #[] #[.pointer (some ⟨b + 1, 0, none⟩)], .int .i64 (x.1.1 : Int), .int .i64 x.1.2, undef, undef, undef, undef, undef, undef, undef], defers := [] }) ?assign ?body ?done ?stop
    case assign =>
      intro l x W K hK
      gi_wp2
      exact hK
    case body =>
      rintro l pre ⟨x, hx1, hx2⟩ W ⟨hI, hB⟩ hlen
      have hix := index_letter x.1 hx1 W
      have hbd := allR_at _ hR x.1
      rw [hx2] at hbd
      have hsW : b ≤ W.heap.size := by
        rcases hI.1 with h | h
        · exact Nat.le_of_lt h.lt
        · exact Nat.le_of_lt h.lt
      gi_wp2_with (refine ⟨trivial, ?_⟩; gi_at_call 54; refine (CallsIn.inRound l (callsIn_wide.2 (Builder_WriteByte_k b b _ _ _ hI.1 (by have := hI.2; simp only [Lib.byteCells, List.length_map]; omega) hsW))).mono ?_; rintro e W1 ⟨rfl, hA1, hB1, hK1⟩)
      have hs1 : b ≤ W1.heap.size := Nat.le_trans hsW hB1.size
      gi_wp2_with (refine ⟨trivial, ?_⟩; gi_at_call 23; refine (CallsIn.inRound l (callsIn_wide.2 (Tryd.strconv_Itoa x.2 (by omega) (by omega) W1 (tab10 (hG.use (m := [2]) rfl (hB.trans (hB1.mono hle))) rfl)))).mono ?_; rintro e W2 ⟨rfl, k, os, rfl⟩)
      have hB2 := Lib.below_grow b W1 hs1 k os
      have hA2 : Lib.IsBuilderF 85 5 b b (Lib.byteCells (dtx (pre.map Subtype.val)) ++ [.int .u8 ((letter x.1).toNat : Int)]) (Sort.grow (W1.drewN k) os) := is_kept (.inr hA1) (grow_kept W1 k os) (fun r h => by cases h)
      have hK2 : KeepsFrom W3.heap.size W1 (Sort.grow (W1.drewN k) os) := KeepsFrom.of_grownBy (grow_kept W1 k os) (fun j h => by cases h)
      have hl := Lib.itoa_length_le x.2 (by omega) (by omega)
      obtain ⟨W2, hW2⟩ : ∃ W2, Sort.grow (W1.drewN k) os = W2 := ⟨_, rfl⟩
      rw [hW2] at hB2 hA2 hK2 ⊢
      have hs2 : b ≤ W2.heap.size := Nat.le_trans hs1 hB2.size
      gi_wp2_with (refine ⟨trivial, ?_⟩; gi_at_call 55; refine (CallsIn.inRound l (callsIn_wide.2 (Builder_WriteString_k b b _ ⟨(Lib.itoa x.2).toArray⟩ W2 hA2 (by have := hI.2; simp only [Lib.byteCells, List.length_map, List.length_append, List.length_cons, List.length_nil, ByteArray.size, List.size_toArray]; omega) hs2))).mono ?_; rintro e W4 ⟨rfl, hA3, hB3', hK3⟩)
      refine ⟨((keeps_of_others hK1 (by omega) hB1.size).trans hK2).trans (keeps_of_others hK3 (by omega) hB3'.size), (hB1.trans (hB2.trans hB3')).mono hle, ⟨⟨?_, ?_⟩, hB.trans ((hB1.trans (hB2.trans hB3')).mono hle)⟩⟩
      · rw [List.map_append, List.map_cons, List.map_nil, dtx_snoc, Lib.byteCells_append, Lib.byteCells_append]
        exact .inr hA3
      · have := hI.2
        simp only [List.map_append, List.map_cons, List.map_nil, dtx_snoc, List.length_append, List.length_cons, List.length_nil]
        omega
    case done =>
      rintro D ys W hD hS ⟨hI, hB⟩ hK
      have hsW : b ≤ W.heap.size := by
        rcases hI.1 with h | h
        · exact Nat.le_of_lt h.lt
        · exact Nat.le_of_lt h.lt
      gi_wp2_with (refine ⟨trivial, ?_⟩; gi_at_call 56; refine (callsIn_wide.2 (Tryd.Builder_String_any_k b b _ W hI.1 hsW)).mono ?_; rintro e W4 ⟨rfl, hI4, hB4, hK4⟩)
      have hKD := (keeps_of_others hK4 (by omega : b < D) hB4.size).same D _ (Nat.le_refl _) hK rfl
      refine ⟨by simp, .inl ⟨_, _, rfl, run_takeDeferred hKD, ?_⟩⟩
      refine ⟨_, results_tmp rfl _ _ _, ?_, (hB.trans (hB4.mono hle)).trans (belowK_b (w := w) (Nat.le_refl _) _ D _ _ (by omega) hKD rfl rfl)⟩
      rfl
    case stop =>
      rintro D c pre W _ _ h _
      exact h.elim
end Go.Proofs.YthfibffgmoblaaaDoor.Di
namespace Go.Proofs.YthfibffgmoblaaaDoor
open Go Go.RowKit Go.Proofs.YthfibffgmoblaaaDoor.Di
def dims_Text.f (a0_0 a0_1 a0_2 a0_3 a0_4 a0_5 a0_6 : Int) : Option ByteArray := some (if allR [a0_0, a0_1, a0_2, a0_3, a0_4, a0_5, a0_6] = true then ⟨(dtx (nz [a0_0, a0_1, a0_2, a0_3, a0_4, a0_5, a0_6] 7)).toArray⟩ else ⟨#[]⟩)
theorem dims_Text.calls (a0_0 a0_1 a0_2 a0_3 a0_4 a0_5 a0_6 : Int) (r : ByteArray) (w : World) (hG : Glob [2] w) (h : dims_Text.f a0_0 a0_1 a0_2 a0_3 a0_4 a0_5 a0_6 = some r) :
    Calls Tryd.prog 22 #[.agg #[.int .i64 a0_0, .int .i64 a0_1, .int .i64 a0_2, .int .i64 a0_3, .int .i64 a0_4, .int .i64 a0_5, .int .i64 a0_6]] w fun e w' => e = .returned (.string r) ∧ Below w.heap.size w w' := by
  obtain rfl := Option.some.inj h
  exact text_calls a0_0 a0_1 a0_2 a0_3 a0_4 a0_5 a0_6 w hG
end Go.Proofs.YthfibffgmoblaaaDoor
