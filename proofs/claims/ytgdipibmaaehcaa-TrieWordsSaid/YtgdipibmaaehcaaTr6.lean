/- A trie's memory, step by step: a child put into a node's map, a word put into a node; what the nodes read as. Conditions: those in each theorem. -/
import Derived.Test.YtgdipibmaaehcaaTr5
namespace Go.Proofs.Ytgdipibmaaehcaa.Tr
open Go Go.RowKit Go.Proofs.Ytgdipibmaaehcaa Go.Proofs.Ytgdipibmaaehcaa.Sq Go.Proofs.YtgdipibmaaehcaaW.PrintWords Go.Proofs.YtgdipibmaaehcaaW.PrintLast Go.Proofs.YtgdipibmaaehcaaW.PrintMore
set_option linter.unusedVariables false
set_option linter.unusedSimpArgs false
theorem TrieM.congr {gt base N : Nat} {ms : List Nat} {wd : List Int} {fs fs' : List (Int → Option Nat)} {W : World} (h : TrieM gt base N ms wd fs W) (hl : fs'.length = fs.length)
    (e : ∀ (i : Nat) (f f' : Int → Option Nat), fs[i]? = some f → fs'[i]? = some f' → ∀ c, 0 ≤ c → c ≤ 255 → f c = f' c) : TrieM gt base N ms wd fs' W := by
  refine ⟨h.ex, by rw [hl]; exact h.l1, by rw [hl]; exact h.l2, h.nd, fun i m f' hi hf' => ?_, h.hb⟩
  obtain ⟨f, hf⟩ : ∃ f, fs[i]? = some f := ⟨_, List.getElem?_eq_getElem (by obtain ⟨hh, _⟩ := List.getElem?_eq_some_iff.1 hf'; omega)⟩
  obtain ⟨a, D, hD, hR⟩ := h.mp i m f hi hf
  exact ⟨a, D, hD, hR.congr (e i f f' hf hf')⟩
/-- What a walk reads of a node. -/
theorem TrieM.node {gt base N : Nat} {ms : List Nat} {wd : List Int} {fs : List (Int → Option Nat)} {W : World} (h : TrieM gt base N ms wd fs W) (a : Nat) (ha : a < fs.length) :
    ∃ (g cap m : Nat) (f : Int → Option Nat) (D : DataW Unit), W.cell? ⟨gt, 0, none⟩ = some (.slice (some ⟨g, 0, none⟩) fs.length cap) ∧ Kd.R kN 52 W base (fun _ => True) (.slice (some ⟨g, 0, none⟩) fs.length cap) (ms.zip wd) ∧
      W.cell? ⟨g, a * 2, none⟩ = some (.map (some m)) ∧ W.cell? ⟨g, a * 2 + 1, none⟩ = some (.int .i64 (wd.getD a 0)) ∧ W.frozen? ⟨g, a * 2 + 1, none⟩ = false ∧ ms[a]? = some m ∧ fs[a]? = some f ∧ W.ownsMap Try.prog 5 (plainElem (H := Unit) Try.prog 3) m N D ∧ Reads D f := by
  obtain ⟨v, h1, h2⟩ := h.ex
  have hz := len_zip h.l1 h.l2
  obtain ⟨g, cap, rfl, _, _, cells, hcells⟩ := Kd.R_form h2 (by omega)
  obtain ⟨ad, hA, n0, n1⟩ := at_N (Kd.R_reads' h2).2.2 a (by omega)
  cases hA
  obtain ⟨m, hm⟩ : ∃ m, ms[a]? = some m := ⟨_, List.getElem?_eq_getElem (by rw [h.l1]; exact ha)⟩
  obtain ⟨wi, hw⟩ : ∃ wi, wd[a]? = some wi := ⟨_, List.getElem?_eq_getElem (by rw [h.l2]; exact ha)⟩
  obtain ⟨f, hf⟩ : ∃ f, fs[a]? = some f := ⟨_, List.getElem?_eq_getElem ha⟩
  obtain ⟨_, D, hD, hR⟩ := h.mp a m f hm hf
  rw [zip_at hm hw] at n0 n1
  rw [add_plain] at n0 n1
  rw [hz] at h1 h2
  exact ⟨g, cap, m, f, D, hc1 h1, h2, n0, by rw [List.getD_eq_getElem?_getD, hw]; exact n1, blk_frozen hcells _, hm, hf, hD, hR⟩
/-- A child is put there. -/
theorem TrieM.put {gt base N : Nat} {ms : List Nat} {wd : List Int} {fs : List (Int → Option Nat)} {W W' : World} (h : TrieM gt base N ms wd fs W) {a m : Nat} {f : Int → Option Nat} {D : DataW Unit} (hm : ms[a]? = some m) (hf : fs[a]? = some f) (hD : W.ownsMap Try.prog 5 (plainElem (H := Unit) Try.prog 3) m N D) (hR : Reads D f)
    {c : Int} (h0 : 0 ≤ c) (h1 : c ≤ 255) {k : Nat} (hD' : W'.ownsMap Try.prog 5 (plainElem (H := Unit) Try.prog 3) m (N + 1) (D.put (.int .u8 c) (.lit (.int .i64 (k : Int))))) (hg : W.grownBy W' (some m)) :
    TrieM gt base (N + 1) ms wd (fs.set a (fun x => if x = c then some k else f x)) W' ∧ KeptT W W' ∧ Below base W W' := by
  obtain ⟨v, e1, e2⟩ := h.ex
  have hmb := (h.mp a m f hm hf).1
  refine ⟨⟨⟨v, ?_, ?_⟩, by rw [List.length_set]; exact h.l1, by rw [List.length_set]; exact h.l2, h.nd, fun i n f' hi hf' => ?_, h.hb⟩, ?_, ?_⟩
  · exact blk_grown e1 hg (fun e => map_ne_cells hD e1 (Option.some.inj e).symm)
  · exact Kd.R_grown1 e2 rfl hg (map_ne hD e2)
  · by_cases hia : i = a
    · subst hia
      rw [hm] at hi
      cases hi
      rw [List.getElem?_set_self (by obtain ⟨hh, _⟩ := List.getElem?_eq_some_iff.1 hf; exact hh)] at hf'
      cases hf'
      exact ⟨hmb, _, hD', hR.put c h0 h1 k⟩
    · rw [List.getElem?_set_ne (Ne.symm hia)] at hf'
      obtain ⟨b, E, hE, hRE⟩ := h.mp i n f' hi hf'
      refine ⟨b, E, (hE.mono (by omega)).kept hg (fun e => ?_), hRE⟩
      have e3 : n = m := Option.some.inj e
      subst e3
      obtain ⟨hh, e4⟩ := List.getElem?_eq_some_iff.1 hi
      obtain ⟨hh2, e5⟩ := List.getElem?_eq_some_iff.1 hm
      rcases Nat.lt_trichotomy i a with q | q | q
      · exact List.pairwise_iff_getElem.1 h.nd i a hh hh2 q (e4.trans e5.symm)
      · exact hia q
      · exact List.pairwise_iff_getElem.1 h.nd a i hh2 hh q (e5.trans e4.symm)
  · intro g cs t fr e _ _
    refine (hg.block g (blk_lt e) fun e2 => ?_).trans e
    have e3 : g = m := Option.some.inj e2
    subst e3
    obtain ⟨es, clock, hb, _⟩ := hD
    rw [hb] at e
    cases e
  · exact (Below.refl base W).grown hg (by have := hD.lt; omega) (fun k e => by have : m = k := Option.some.inj e; omega)
/-- A word is put there. -/
theorem TrieM.word {gt base N : Nat} {ms : List Nat} {wd : List Int} {fs : List (Int → Option Nat)} {W : World} (h : TrieM gt base N ms wd fs W) {a g cap : Nat} (ha : a < fs.length) (hc : W.cell? ⟨gt, 0, none⟩ = some (.slice (some ⟨g, 0, none⟩) fs.length cap)) (x : Int) :
    TrieM gt base N ms (wd.set a x) fs (W.setCell ⟨g, a * 2 + 1, none⟩ (.int .i64 x)) ∧ KeptT W (W.setCell ⟨g, a * 2 + 1, none⟩ (.int .i64 x)) ∧ Below base W (W.setCell ⟨g, a * 2 + 1, none⟩ (.int .i64 x)) := by
  obtain ⟨v, e1, e2⟩ := h.ex
  have hz := len_zip h.l1 h.l2
  have hv : v = .slice (some ⟨g, 0, none⟩) fs.length cap := by
    have := (hc1 e1).symm.trans hc
    exact Option.some.inj this
  subst hv
  obtain ⟨g', cap', eq, hbg, _, cells, hcells⟩ := Kd.R_form e2 (by omega)
  have hgg : g' = g := by
    injection eq with q1 q2 q3
    injection q1 with q1
    injection q1 with q1
    exact q1.symm
  subst hgg
  obtain ⟨ad, hA, n0, n1⟩ := at_N (Kd.R_reads' e2).2.2 a (by omega)
  cases hA
  obtain ⟨m, hm⟩ : ∃ m, ms[a]? = some m := ⟨_, List.getElem?_eq_getElem (by rw [h.l1]; exact ha)⟩
  obtain ⟨wi, hw⟩ : ∃ wi, wd[a]? = some wi := ⟨_, List.getElem?_eq_getElem (by rw [h.l2]; exact ha)⟩
  rw [zip_at hm hw] at n0 n1
  rw [add_plain] at n0 n1
  have hM : kN.M W base (fun _ => False) (m, x) ([Value.map (some m), .int .i64 wi].take 1 ++ [.int .i64 x] ++ [Value.map (some m), .int .i64 wi].drop (1 + [Value.int .i64 x].length)) := ⟨[.map (some m)], [.int .i64 x], rfl, rfl, rfl⟩
  have hcc : ∀ j u, [Value.map (some m), .int .i64 wi][j]? = some u → W.cell? ⟨g', (a : Int).toNat * kN.sz + j, none⟩ = some u := by
    intro j u hu
    rcases j with _ | _ | j
    · cases hu; exact n0
    · cases hu; exact n1
    · simp at hu
  obtain ⟨hrow, hgr⟩ := Kd.R_seg e2 (a : Int) (by omega) (by omega) (seg := [Value.int .i64 x]) (j := 1) rfl hcc (by show 1 + 1 ≤ 2; omega) hM (fun _ hk => hk.elim)
  have hzs : (ms.zip wd).set (a : Int).toNat (m, x) = ms.zip (wd.set a x) := by
    rw [Int.toNat_natCast]
    apply List.ext_getElem?
    intro i
    rw [List.getElem?_set]
    by_cases hia : a = i
    · subst hia
      rw [if_pos rfl, if_pos (by omega), eq_comm, List.getElem?_zip_eq_some]
      exact ⟨hm, by rw [List.getElem?_set_self (by obtain ⟨hh, _⟩ := List.getElem?_eq_some_iff.1 hw; exact hh)]⟩
    · rw [if_neg hia, List.zip, List.getElem?_zipWith, List.getElem?_zipWith, List.getElem?_set_ne hia]
  rw [hzs] at hrow
  have hgne : g' ≠ gt := fun e => by
    subst e
    rw [e1] at hcells
    injection hcells with q
    injection q with q1 q2
    exact absurd q2 (by decide)
  have hb : Below base W (W.setCell ⟨g', a * 2 + 1, none⟩ (.int .i64 x)) := (Below.refl base W).setCell (p := ⟨g', a * 2 + 1, none⟩) hbg _
  refine ⟨⟨⟨_, ?_, hrow⟩, h.l1, by rw [List.length_set]; exact h.l2, h.nd, fun i n f hi hf => ?_, h.hb⟩, ?_, hb⟩
  · exact (Below.heap_setCell _ _ _ _ (Ne.symm hgne)).trans e1
  · obtain ⟨b, D, hD, hR⟩ := h.mp i n f hi hf
    exact ⟨b, D, hD.setCell (map_ne_cells hD hcells) _, hR⟩
  · exact KeptT.grown e2 hgr
/-- What the nodes' maps tell. -/
def fsOf (P : List Str) : List (Int → Option Nat) := P.map fun p c => pos P (p ++ [byteOf c])
theorem byteOf_inj {c d : Int} (hc0 : 0 ≤ c) (hc : c ≤ 255) (hd0 : 0 ≤ d) (hd : d ≤ 255) (h : byteOf c = byteOf d) : c = d := by
  unfold byteOf at h
  have h2 : c.toNat.toUInt8.toNat = d.toNat.toUInt8.toNat := by rw [h]
  simp at h2
  omega
theorem grown_fs {P : List Str} (hg : Good P) {a : Nat} {x : Str} (ha : P[a]? = some x) {c : Int} (hc0 : 0 ≤ c) (hc : c ≤ 255) (hn : x ++ [byteOf c] ∉ P) {f : Int → Option Nat} (hf : (fsOf P ++ [fun _ => none])[a]? = some f) :
    ∀ (i : Nat) (u u' : Int → Option Nat), ((fsOf P ++ [fun _ => none]).set a (fun y => if y = c then some P.length else f y))[i]? = some u → (fsOf (P ++ [x ++ [byteOf c]]))[i]? = some u' → ∀ y, 0 ≤ y → y ≤ 255 → u y = u' y := by
  obtain ⟨haL, hax⟩ := List.getElem?_eq_some_iff.1 ha
  have hfl : (fsOf P).length = P.length := by simp [fsOf]
  intro i u u' hu hu' y hy0 hy
  have hil : i < P.length + 1 := by
    obtain ⟨hh, _⟩ := List.getElem?_eq_some_iff.1 hu'
    simp [fsOf] at hh; exact hh
  by_cases hi : i < P.length
  · have e1 : u' y = pos (P ++ [x ++ [byteOf c]]) (P[i] ++ [byteOf y]) := by
      unfold fsOf at hu'
      rw [List.getElem?_map, List.getElem?_append_left hi, List.getElem?_eq_getElem hi] at hu'
      simp only [Option.map_some, Option.some.injEq] at hu'
      rw [← hu']
    have e2 : (fsOf P ++ [fun _ => none])[i]? = some (fun c => pos P (P[i] ++ [byteOf c])) := by
      rw [List.getElem?_append_left (by rw [hfl]; exact hi)]
      unfold fsOf
      rw [List.getElem?_map, List.getElem?_eq_getElem hi]
      rfl
    rw [e1, pos_append]
    by_cases hia : i = a
    · subst hia
      rw [hf] at e2
      cases e2
      rw [List.getElem?_set_self (by simp [hfl]; omega)] at hu
      cases hu
      simp only [hax]
      by_cases hyc : y = c
      · subst hyc
        rw [if_pos rfl, (pos_none P _).2 hn]
        simp
      · rw [if_neg hyc]
        cases pos P (x ++ [byteOf y]) with
        | some k => rfl
        | none =>
          have : ¬ (x ++ [byteOf c] = x ++ [byteOf y]) := fun e => hyc (byteOf_inj hy0 hy hc0 hc (by simpa using e.symm))
          simp only [if_neg this]
    · rw [List.getElem?_set_ne (Ne.symm hia), e2] at hu
      cases hu
      simp only
      cases pos P (P[i] ++ [byteOf y]) with
      | some k => rfl
      | none =>
        have : ¬ (x ++ [byteOf c] = P[i] ++ [byteOf y]) := fun e => by
          have e3 := List.append_inj_left' e rfl
          rw [← hax] at e3
          rcases Nat.lt_trichotomy a i with q | q | q
          · exact List.pairwise_iff_getElem.1 hg.nd a i haL hi q e3
          · exact hia q.symm
          · exact List.pairwise_iff_getElem.1 hg.nd i a hi haL q e3.symm
        simp only [if_neg this]
  · have hiP : i = P.length := by omega
    subst hiP
    rw [List.getElem?_set_ne (by omega), List.getElem?_append_right (by rw [hfl]; exact Nat.le_refl _), hfl, Nat.sub_self] at hu
    simp at hu
    subst hu
    unfold fsOf at hu'
    rw [List.getElem?_map, List.getElem?_append_right (Nat.le_refl _), Nat.sub_self] at hu'
    simp at hu'
    rw [← hu']
    rw [eq_comm, pos_none]
    intro hm
    rcases List.mem_append.1 hm with hm | hm
    · refine hn (hg.cl _ _ (by simpa using hm))
    · simp at hm
theorem addW_snoc : ∀ (r : Str) (P : List Str) (pre : Str) (c : UInt8), addW P pre (r ++ [c]) = if pre ++ r ++ [c] ∈ addW P pre r then addW P pre r else addW P pre r ++ [pre ++ r ++ [c]]
  | [], P, pre, c => by simp [addW]
  | d :: r, P, pre, c => by
    rw [List.cons_append]
    unfold addW
    have := addW_snoc r (if pre ++ [d] ∈ P then P else P ++ [pre ++ [d]]) (pre ++ [d]) c
    rw [this]
    simp
theorem TrieM.at_ {gt base N : Nat} {ms : List Nat} {wd : List Int} {P : List Str} {W : World} (h : TrieM gt base N ms wd (fsOf P) W) (hN : N ≤ P.length) (hg : Good P) (hs : P.length ≤ 100000) : TrieAt gt base P wd W := by
  have hfl : (fsOf P).length = P.length := by simp [fsOf]
  obtain ⟨v, e1, e2⟩ := h.ex
  refine ⟨⟨v, ms, e1, e2, h.l1.trans hfl, h.l2.trans hfl, h.nd, fun i m p hi hp => ?_⟩, hg, hs⟩
  obtain ⟨a, D, hD, hR⟩ := h.mp i m (fun c => pos P (p ++ [byteOf c])) hi (by unfold fsOf; rw [List.getElem?_map, hp]; rfl)
  exact ⟨a, D, hD.mono hN, hR⟩
end Go.Proofs.Ytgdipibmaaehcaa.Tr
