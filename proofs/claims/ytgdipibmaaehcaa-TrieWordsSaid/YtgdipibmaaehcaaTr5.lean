/- trie.grow: a node is put there; a child is put into a node's map; a word into a node. Conditions: those in each theorem. -/
import Derived.Test.YtgdipibmaaehcaaTr4
import Derived.Maps.AppendAt
import Derived.Carry
import Derived.Laws.MakeOwn
namespace Go.Proofs.Ytgdipibmaaehcaa.Tr
open Go Go.RowKit Go.Proofs.Ytgdipibmaaehcaa Go.Proofs.Ytgdipibmaaehcaa.Sq Go.Proofs.YtgdipibmaaehcaaW.PrintWords Go.Proofs.YtgdipibmaaehcaaW.PrintLast Go.Proofs.YtgdipibmaaehcaaW.PrintMore
set_option linter.unusedVariables false
set_option linter.unusedSimpArgs false
/-- A trie's memory: the nodes' row, each node's map and what it reads as. -/
structure TrieM (gt base N : Nat) (ms : List Nat) (wd : List Int) (fs : List (Int → Option Nat)) (W : World) : Prop where
  ex : ∃ v, W.heap[gt]? = some (.cells #[v] 48 (0, 0)) ∧ Kd.R kN 52 W base (fun _ => True) v (ms.zip wd)
  l1 : ms.length = fs.length
  l2 : wd.length = fs.length
  nd : ms.Nodup
  mp : ∀ (i m : Nat) (f : Int → Option Nat), ms[i]? = some m → fs[i]? = some f → base ≤ m ∧ ∃ D, W.ownsMap Try.prog 5 (plainElem (H := Unit) Try.prog 3) m N D ∧ Reads D f
  hb : base ≤ gt
theorem info52 : (Try.prog.info? 52).map (fun i => (i.zero, i.size, i.bytes)) = some (some (.agg #[.map none, .int .i64 0]), 2, 16) := by kernel_rfl
theorem map_ne {W : World} {P : Program} {k : TypeId} {R : Value → Option (DataW Unit × List MemPlace)} {m n base : Nat} {D : DataW Unit} {ok : Nat → Prop} {v : Value} {xs : List (Nat × Int)} (h : W.ownsMap P k R m n D) (hr : Kd.R kN 52 W base ok v xs) : some m ≠ v.ownBlock := by
  intro e
  obtain ⟨_, _, _, q, _, cells, hc⟩ := (Kd.R_bound hr).1 m e.symm
  obtain ⟨es, clock, hb, _⟩ := h
  rw [hb] at hc
  cases hc
theorem map_ne_cells {W : World} {P : Program} {k : TypeId} {R : Value → Option (DataW Unit × List MemPlace)} {m n g : Nat} {D : DataW Unit} {cs : Array Value} {t : TypeId} (h : W.ownsMap P k R m n D) (hg : W.heap[g]? = some (.cells cs t (0, 0))) : m ≠ g := by
  rintro rfl
  obtain ⟨es, clock, hb, _⟩ := h
  rw [hb] at hg
  cases hg
theorem TrieM.lt {gt base N : Nat} {ms : List Nat} {wd : List Int} {fs : List (Int → Option Nat)} {W : World} (h : TrieM gt base N ms wd fs W) : ∀ m ∈ ms, m < W.heap.size := by
  intro m hm
  obtain ⟨i, hi, e⟩ := List.mem_iff_getElem.1 hm
  have hmi : ms[i]? = some m := by rw [List.getElem?_eq_getElem hi, e]
  obtain ⟨f, hf⟩ : ∃ f, fs[i]? = some f := ⟨_, List.getElem?_eq_getElem (by rw [← h.l1]; exact hi)⟩
  obtain ⟨_, D, hD, _⟩ := h.mp i m f hmi hf
  exact hD.lt
theorem TrieM.below {gt base N : Nat} {ms : List Nat} {wd : List Int} {fs : List (Int → Option Nat)} {W W' : World} (h : TrieM gt base N ms wd fs W) (hb : Below W.heap.size W W') : TrieM gt base N ms wd fs W' := by
  obtain ⟨⟨v, h1, h2⟩, l1, l2, nd, mp, hbb⟩ := h
  refine ⟨⟨v, blk_below h1 hb, Kd.R_below h2 hb⟩, l1, l2, nd, fun i m f hi hf => ?_, hbb⟩
  obtain ⟨a, D, b, c⟩ := mp i m f hi hf
  exact ⟨a, D, b.kept (below_grown hb) (by simp), c⟩
/-- Blocks of other types stay. -/
def KeptT (W W' : World) : Prop := ∀ (g : Nat) (cs : Array Value) (t : TypeId) (fr : Nat × Nat), W.heap[g]? = some (.cells cs t fr) → t ≠ 48 → t ≠ 52 → W'.heap[g]? = some (.cells cs t fr)
theorem KeptT.refl (W : World) : KeptT W W := fun _ _ _ _ h _ _ => h
theorem KeptT.trans {A B C : World} (h : KeptT A B) (k : KeptT B C) : KeptT A C := fun g cs t fr e h1 h2 => k g cs t fr (h g cs t fr e h1 h2) h1 h2
theorem KeptT.below {A B : World} (h : Below A.heap.size A B) : KeptT A B := fun g cs t fr e _ _ => (h.block g (blk_lt e)).trans e
theorem KeptT.grown {A B : World} {v : Value} {base : Nat} {ok : Nat → Prop} {xs : List (Nat × Int)} (hr : Kd.R kN 52 A base ok v xs) (h : A.grownBy B v.ownBlock) : KeptT A B := by
  intro g cs t fr e _ h2
  refine (h.block g (blk_lt e) fun e2 => ?_).trans e
  obtain ⟨_, _, _, q, hq, cells, hc⟩ := (Kd.R_bound hr).1 g e2.symm
  rw [hc] at e
  have hq2 : q = 52 := by simp [kN, Kd.pair, Kd.scalar, Kd.int] at hq; exact hq
  injection e with e
  injection e with e1 e3 e4
  exact h2 (e3.symm.trans hq2)
theorem KeptT.set {A B : World} (h : KeptT A B) {gt : Nat} {cs : Array Value} (hg : B.heap[gt]? = some (.cells cs 48 (0, 0))) (u : Value) : KeptT A (B.setCell ⟨gt, 0, none⟩ u) := by
  intro g ds t fr e h1 h2
  have e2 := h g ds t fr e h1 h2
  refine (Below.heap_setCell _ _ _ _ ?_).trans e2
  rintro rfl
  have e3 := hg.symm.trans e2
  injection e3 with e3
  injection e3 with e4 e5
  exact h1 e5.symm
set_option maxHeartbeats 4000000 in
theorem grow_calls {gt base N : Nat} {ms : List Nat} {wd : List Int} {fs : List (Int → Option Nat)} {W : World} (h : TrieM gt base N ms wd fs W) (hbs : base ≤ W.heap.size) (hn : fs.length ≤ 100000) :
    Calls Try.prog 23 #[.pointer (some ⟨gt, 0, none⟩)] W fun e w' => e = .returned (.int .i64 (fs.length : Int)) ∧ TrieM gt base N (ms ++ [W.heap.size]) (wd ++ [-1]) (fs ++ [fun _ => none]) w' ∧ Below base W w' ∧ W.heap.size < w'.heap.size ∧ KeptT W w' := by
  have H := Aside0.mk h
  obtain ⟨⟨v, h1, h2⟩, l1, l2, nd, mp, hbb⟩ := h
  have hz := len_zip l1 l2
  obtain ⟨A, cc, rfl⟩ := Kd.R_slice h2
  have c1 := hc1 h1
  have HH := Aside0.mk (And.intro h1 h2)
  have HN := Aside0.mk hn
  have HBS := Aside0.mk hbs
  have HZ := Aside0.mk hz
  clear h1 h2 mp nd hbs hn
  have hmk := run_makeMap (P := Try.prog) 50 W
  go_enter Try.func23, Try.ntmps23
  go_wp2_with (at_builtin; go_loud (refine Kd.R_append kN (w0 := W) (W := W.alloc (.map #[] 0)) base rfl (.tmp 7) (.tmp 10) 46 52 (.agg #[.map none, .int .i64 0]) 16 rfl u46 info52 rfl (by decide) (by omega) (.slice A fs.length cc) (ms.zip wd) ((W.heap.size, -1) : Nat × Int) [.map (some W.heap.size), .int .i64 (-1)] (fun _ => True) (fun _ => False) rfl ?aX ?aP (fun _ hk => hk.elim) (fun _ _ => trivial) ?aO ?aB ?aS ?aL ?_))
  case aX => rw [show (W.alloc (.map #[] 0)).heap.size = W.heap.size + 1 from Array.size_push ..]; rfl
  case aP => exact ⟨[.map (some W.heap.size)], [.int .i64 (-1)], rfl, rfl, rfl⟩
  case aO => rw [← HZ.out]; exact Kd.R_alloc HH.out.2 _
  case aB => exact (below_alloc (Below.refl _ _) _).mono HBS.out
  case aS => have := HBS.out; rw [show (W.alloc (.map #[] 0)).heap.size = W.heap.size + 1 from Array.size_push ..]; omega
  case aL => have := HZ.out; have := HN.out; omega
  intro v1 w1 hR hB hG hat
  obtain ⟨A1, c1', rfl⟩ := Kd.R_slice hR
  have hlen : ((ms.zip wd) ++ [(W.heap.size, (-1 : Int))]).length = fs.length + 1 := by rw [List.length_append, HZ.out]; rfl
  have hg1 : w1.heap[gt]? = some (.cells #[.slice A (ms.zip wd).length cc] 48 (0, 0)) := blk_grown (blk_alloc HH.out.1 _) hG (by rw [← HZ.out]; exact Kd.R_ne HH.out.2 HH.out.1 (by decide))
  have HG1 := Aside0.mk hg1
  have HR := Aside0.mk hR
  have HB := Aside0.mk hB
  have HG := Aside0.mk hG
  rw [hlen]
  have c2 := hc1 hg1
  have f2 := blk_frozen hg1 0
  clear hat hg1 hR hB hG hmk c1
  go_wp2
  have hw : wrap64 (fs.length : Int) = (fs.length : Int) := w64s (by omega) (by have := HN.out; omega)
  rw [hw]
  have hsz : (W.alloc (.map #[] 0)).heap.size = W.heap.size + 1 := Array.size_push ..
  have hgt : W.heap.size + 1 ≤ w1.heap.size := by rw [← hsz]; exact HG.out.size
  refine bodyPost_ret (v := .int .i64 (fs.length : Int)) (by simp [results, Try.f23, go_sem]) rfl ⟨rfl, ?_, ?_, ?_, ?_⟩
  case refine_2 => exact HB.out.setCell (p := ⟨gt, 0, none⟩) hbb _
  case refine_3 => rw [World.size_setCell]; omega
  case refine_4 =>
    have hk : KeptT W (W.alloc (.map #[] 0)) := KeptT.below (below_alloc (Below.refl _ _) _)
    refine (hk.trans (KeptT.grown (Kd.R_alloc HH.out.2 _) ?_)).set HG1.out _
    rw [HZ.out]; exact HG.out
  case refine_1 =>
  have hHH := HH.out
  have hHR := HR.out
  have hHG := HG.out
  rw [hlen] at hHR
  have hne : ∀ m, m ∈ ms → m < W.heap.size := H.out.lt
  have hrs : ∀ (m n : Nat) (D : DataW Unit), W.ownsMap Try.prog 5 (plainElem (H := Unit) Try.prog 3) m n D → (w1.setCell ⟨gt, 0, none⟩ (.slice A1 (fs.length + 1) c1')).ownsMap Try.prog 5 (plainElem (H := Unit) Try.prog 3) m n D := by
    intro m n D hD
    refine ((hD.alloc _).kept hHG ?_).setCell ?_ _
    · rw [← HZ.out]; exact map_ne hD hHH.2
    · exact map_ne_cells hD hHH.1
  have hnew : (w1.setCell ⟨gt, 0, none⟩ (.slice A1 (fs.length + 1) c1')).ownsMap Try.prog 5 (plainElem (H := Unit) Try.prog 3) W.heap.size 0 (.map []) := by
    refine ((World.ownsMap_made W Try.prog 5 _).kept hHG ?_).setCell ?_ _
    · rw [← HZ.out]; exact fun e => by have := Kd.R_lt hHH.2 _ e.symm; omega
    · have := blk_lt hHH.1; exact fun e => by have e2 : W.heap.size = gt := e; omega
  refine ⟨⟨.slice A1 (fs.length + 1) c1', ?_, ?_⟩, by simp [H.out.l1], by simp [H.out.l2], ?_, ?_, hbb⟩
  · exact p1_0 HG1.out
  · rw [List.zip_append (by rw [H.out.l1, H.out.l2])]
    exact Kd.R_set hHR HG1.out (fun q hq => by simp [kN, Kd.E, Kd.pair, Kd.scalar, Kd.int] at hq; omega) 0 _
  · rw [List.nodup_append]
    refine ⟨H.out.nd, by simp, fun a ha b hb e => ?_⟩
    simp only [List.mem_singleton] at hb
    have := hne a ha
    omega
  · intro i m f hi hf
    by_cases hlt : i < ms.length
    · rw [List.getElem?_append_left hlt] at hi
      rw [List.getElem?_append_left (by rw [← H.out.l1]; exact hlt)] at hf
      obtain ⟨a, D, hD, hR⟩ := H.out.mp i m f hi hf
      exact ⟨a, D, hrs m _ D hD, hR⟩
    · have hi2 : i = ms.length := by
        obtain ⟨h_, _⟩ := List.getElem?_eq_some_iff.1 hi
        simp at h_; omega
      subst hi2
      simp at hi
      rw [H.out.l1] at hf
      simp at hf
      subst hi
      subst hf
      exact ⟨HBS.out, _, hnew.mono (by omega), Reads.empty⟩
end Go.Proofs.Ytgdipibmaaehcaa.Tr
