/- trie.Build: what is built of a row of words. Its conditions: at most 1000 words, of at most 60 bytes each. -/
import Derived.Test.YtgdipibmaaehcaaTr6
namespace Go.Proofs.Ytgdipibmaaehcaa.Tr
open Go Go.RowKit Go.Proofs.Ytgdipibmaaehcaa Go.Proofs.Ytgdipibmaaehcaa.Sq Go.Proofs.YtgdipibmaaehcaaW.PrintWords Go.Proofs.YtgdipibmaaehcaaW.PrintLast Go.Proofs.YtgdipibmaaehcaaW.PrintMore
set_option linter.unusedVariables false
set_option linter.unusedSimpArgs false
theorem TrieM.more {gt base N N' : Nat} {ms : List Nat} {wd : List Int} {fs : List (Int → Option Nat)} {W : World} (h : TrieM gt base N ms wd fs W) (hn : N ≤ N') : TrieM gt base N' ms wd fs W :=
  ⟨h.ex, h.l1, h.l2, h.nd, fun i m f hi hf => by obtain ⟨a, D, hD, hR⟩ := h.mp i m f hi hf; exact ⟨a, D, hD.mono hn, hR⟩, h.hb⟩
theorem at_S {w : World} {A : Option Addr} {n : Nat} {xs : List ByteArray} (h : Kd.C Kd.string w A n xs) (i : Nat) (h1 : i < n) : ∃ ad, A = some ad ∧ w.cell? (ad.add i) = some (.string (xs.getD i ByteArray.empty)) := by
  obtain ⟨ad, c, e, _, hK, hc0⟩ := Kd.C_get h ByteArray.empty (i : Int) (by omega) (by omega)
  rw [Int.toNat_natCast] at hK hc0
  obtain rfl : c = [.string (xs.getD i ByteArray.empty)] := hK
  refine ⟨ad, e, ?_⟩
  have := hc0 0 _ rfl
  rwa [show i * Kd.string.sz + 0 = i from by show i * 1 + 0 = i; omega] at this
theorem find_new {P l : List Str} {q : Str} (hs : ∀ x ∈ l, x ∈ P) (hq : q ∉ P) : find l q = -1 := find_neg.2 fun h => hq (hs q h)
theorem fsOf_len (P : List Str) : (fsOf P).length = P.length := by simp [fsOf]
/-- A byte of a text's row of bytes. -/
theorem bytes_at {W wr : World} {s : ByteArray} (hk : KeptT (Lib.bytesWorld W 5 s) wr) (hs : s.size ≤ 60) (j : Nat) (hj : j < s.size) : wr.cell? ⟨W.heap.size, j, none⟩ = some (.int .u8 ((bytesOf s).getD j 0)) := by
  obtain ⟨_, ea, hx⟩ := (bytes_reads W 5 s (by omega)).at_ (j : Int) (by omega) (by omega)
  cases ea
  rw [add_plain, Int.toNat_natCast] at hx
  have hnew := Lib.bytesWorld_at_new W 5 s
  refine Eq.trans ?_ hx
  exact World.cell?_of_block (w := Lib.bytesWorld W 5 s) ((hk _ _ _ _ hnew (by decide) (by decide)).trans hnew.symm)
theorem find_set {Li P : List Str} {w : Str} {a : Nat} (hg : Good P) (ha : P[a]? = some w) (hf : find Li w = -1) : (P.map (find Li)).set a (Li.length : Int) = P.map (find (Li ++ [w])) := by
  obtain ⟨haL, hax⟩ := List.getElem?_eq_some_iff.1 ha
  apply List.ext_getElem?
  intro b
  by_cases hb : a = b
  · subst hb
    rw [List.getElem?_set_self (by rw [List.length_map]; exact haL), List.getElem?_map, ha, Option.map_some, find_snoc, if_pos ⟨hf, rfl⟩]
  · rw [List.getElem?_set_ne hb, List.getElem?_map, List.getElem?_map]
    cases e : P[b]? with
    | none => rfl
    | some x =>
      rw [Option.map_some, Option.map_some, find_snoc, if_neg]
      rintro ⟨_, rfl⟩
      obtain ⟨hbL, hbx⟩ := List.getElem?_eq_some_iff.1 e
      rcases Nat.lt_trichotomy a b with q | q | q
      · exact List.pairwise_iff_getElem.1 hg.nd a b haL hbL q (hax.trans hbx.symm)
      · exact hb q
      · exact List.pairwise_iff_getElem.1 hg.nd b a hbL haL q (hbx.trans hax.symm)
theorem find_same {Li P : List Str} {w : Str} (hf : find Li w ≠ -1) : P.map (find Li) = P.map (find (Li ++ [w])) := by
  apply List.map_congr_left
  intro x _
  rw [find_snoc, if_neg]
  rintro ⟨h, rfl⟩
  exact hf h
theorem map_getD {P : List Str} {f : Str → Int} {a : Nat} {w : Str} (ha : P[a]? = some w) : (P.map f).getD a 0 = f w := by
  rw [List.getD_eq_getElem?_getD, List.getElem?_map, ha]; rfl
set_option maxHeartbeats 1000000 in
theorem growP {g0 N : Nat} {ms : List Nat} {wd : List Int} {P : List Str} {W : World} (h : TrieM g0 g0 N ms wd (fsOf P) W) (hbs : g0 ≤ W.heap.size) (hn : P.length ≤ 100000) (a : Nat) (ha : a < P.length) :
    Calls Try.prog 23 #[.pointer (some ⟨g0, 0, none⟩)] W fun e w' => e = .returned (.int .i64 (P.length : Int)) ∧ ∃ (g cap m : Nat) (f : Int → Option Nat) (D : DataW Unit), w'.cell? ⟨g0, 0, none⟩ = some (.slice (some ⟨g, 0, none⟩) (P.length + 1) cap) ∧ w'.cell? ⟨g, a * 2, none⟩ = some (.map (some m)) ∧
      Aside0 (TrieM g0 g0 N (ms ++ [W.heap.size]) (wd ++ [-1]) (fsOf P ++ [fun _ => none]) w' ∧ Below g0 W w' ∧ W.heap.size < w'.heap.size ∧ KeptT W w' ∧ (ms ++ [W.heap.size])[a]? = some m ∧ (fsOf P ++ [fun _ => none])[a]? = some f ∧ w'.ownsMap Try.prog 5 (plainElem (H := Unit) Try.prog 3) m N D ∧ Reads D f) := by
  refine (grow_calls h hbs (by rw [fsOf_len]; exact hn)).mono ?_
  rintro e w' ⟨rfl, hT, hB, hlt, hK⟩
  obtain ⟨g, cap, m, f, D, c1, _, n1, _, _, hm, hf, hD, hR⟩ := hT.node a (by rw [List.length_append, fsOf_len]; omega)
  rw [List.length_append, fsOf_len] at c1
  exact ⟨by rw [fsOf_len], g, cap, m, f, D, c1, n1, ⟨hT, hB, hlt, hK, hm, hf, hD, hR⟩⟩
theorem key8 {c : Int} (h0 : 0 ≤ c) (h1 : c ≤ 255) : keyOf Try.prog 5 (.int .u8 c) = some (.int .u8 c) :=
  Maps.keyOf_int_mk (q := .u8) Try.underlying5 (by simp [Lit.wf, IntKind.min, IntKind.max, IntKind.signed, IntKind.bits]; omega)
theorem el64 {k : Nat} (h : k ≤ 100000) : plainElem (H := Unit) Try.prog 3 (.int .i64 (k : Int)) = some (.lit (.int .i64 (k : Int)), []) :=
  plainElem_int (q := .i64) Try.underlying3 (by simp [Lit.wf, IntKind.min, IntKind.max, IntKind.signed, IntKind.bits]; omega)
theorem map_snoc_new {Li P : List Str} {q : Str} (hf : find Li q = -1) : P.map (find Li) ++ [-1] = (P ++ [q]).map (find Li) := by rw [List.map_append, List.map_singleton, hf]
set_option maxHeartbeats 4000000 in
theorem build_calls {W : World} {A : Option Addr} {n cp : Nat} {ws : List ByteArray} (hr : Kd.C Kd.string W A n ws) (hn : n ≤ 1000) (hw : ∀ s ∈ ws, s.size ≤ 60) :
    Calls Try.prog 11 #[.slice A n cp] W fun e w' => ∃ gt, e = .returned (.pointer (some ⟨gt, 0, none⟩)) ∧ W.heap.size ≤ gt ∧ gt < w'.heap.size ∧ TrieAt gt W.heap.size (nodes (ws.map strOf)) ((nodes (ws.map strOf)).map (find (ws.map strOf))) w' ∧ Below W.heap.size W w' := by
  have hlen : ws.length = n := hr.1
  obtain ⟨l, hl⟩ : ∃ l, l = ws.map strOf := ⟨_, rfl⟩
  rw [← hl]
  have HR := Aside0.mk hr
  have HW := Aside0.mk hw
  have HL := Aside0.mk hl
  have HN := Aside0.mk hn
  have HLEN := Aside0.mk hlen
  have T0 : TrieM W.heap.size W.heap.size 0 [] [] [] (W.alloc (.cells #[.slice none 0 0] 48)) := by
    refine ⟨⟨_, blk_new W _, Kd.R_nil kN 52 _ _ _⟩, rfl, rfl, List.nodup_nil, fun i m f hi => by simp at hi, Nat.le_refl _⟩
  have HT0 := Aside0.mk T0
  have hsz : (W.alloc (.cells #[.slice none 0 0] 48)).heap.size = W.heap.size + 1 := Array.size_push ..
  have HSZ := Aside0.mk hsz
  clear hr hw hl hn hlen T0 hsz
  go_enter Try.func11, Try.ntmps11
  go_wp2_with (first | (go_at_call 23; (with_reducible refine (grow_calls HT0.out (by rw [HSZ.out]; exact Nat.le_succ _) (by decide)).mono ?_); rintro e w' ⟨rfl, hT1, hB1, hlt1, hK1⟩))
  have hB1' : Below W.heap.size W w' := (below_alloc (Below.refl _ _) _).trans hB1
  have HB1 := Aside0.mk hB1'
  have HT1 : Aside0 (∃ ms, TrieM W.heap.size W.heap.size (nodes (l.take 0)).length ms ((nodes (l.take 0)).map (find (l.take 0))) (fsOf (nodes (l.take 0))) w') := by
    refine ⟨_, (hT1.more (Nat.zero_le _)).congr (by rw [List.take_zero]; rfl) (fun i f f' hf hf' c _ _ => ?_)⟩
    rw [List.take_zero] at hf'
    rcases i with _ | i
    · cases hf; cases hf'; rfl
    · simp at hf
  have hgl : W.heap.size < w'.heap.size := by have := HSZ.out; omega
  have HGL := Aside0.mk hgl
  clear hT1 hB1 hlt1 hK1 hB1' hgl
  generalize hv0 : W.heap.size = g0 at *
  have HV0 := Aside0.mk hv0
  clear hv0
  go_loopw [17] (fun v17 wr => ∃ i : Nat, v17 = .int .i64 (i : Int) ∧ Aside0 (i ≤ n ∧ (∃ ms, TrieM g0 g0 (nodes (l.take i)).length ms ((nodes (l.take i)).map (find (l.take i))) (fsOf (nodes (l.take i))) wr) ∧ Below g0 W wr ∧ (nodes (l.take i)).length ≤ 1 + 60 * i ∧ g0 < wr.heap.size)) (fun v17 _ => n - (intOf v17).toNat)
  case atStart => exact ⟨0, rfl, ⟨Nat.zero_le _, HT1.out, HB1.out, by rw [List.take_zero]; decide, HGL.out⟩⟩
  case round =>
    obtain ⟨i, rfl, HI⟩ := hrel
    by_cases hlt : i < n
    · have hd : decide ((i : Int) < (n : Int)) = true := by simp; omega
      have hdn : decide (i < n) = true := decide_eq_true hlt
      have hq1 := eq_true hlt
      have hCr := Kd.C_below HR.out (w1 := wr) (by rw [HV0.out]; exact HI.out.2.2.1)
      obtain ⟨ad, rfl, hS⟩ := at_S hCr i hlt
      have HLT := Aside0.mk hlt
      obtain ⟨s, hs⟩ : ∃ s, s = ws.getD i ByteArray.empty := ⟨_, rfl⟩
      rw [← hs] at hS
      have HS := Aside0.mk hs
      have kb := fun W => print_bytes (P := Try.prog) 9 49 5 Try.underlying9 Try.underlying49 Try.underlying5 s W
      clear hs hlt hCr
      go_wp2_with fail
      clear kb
      have hw60 : s.size ≤ 60 := HW.out s (by
        have := HS.out; have h_ := HLT.out; have h2_ := HLEN.out
        rw [this, List.getD_eq_getElem?_getD, List.getElem?_eq_getElem (by omega)]; exact List.getElem_mem _)
      have HW60 := Aside0.mk hw60
      obtain ⟨w, hw⟩ : ∃ w, w = strOf s := ⟨_, rfl⟩
      obtain ⟨Li, hLi⟩ : ∃ Li, Li = l.take i := ⟨_, rfl⟩
      have hli : Li.length = i := by have := HLT.out; have h2_ := HLEN.out; rw [hLi, List.length_take, HL.out, List.length_map]; omega
      have hsnoc : l.take (i + 1) = Li ++ [w] := by
        have := HLT.out; have h2_ := HLEN.out
        have hil : i < l.length := by rw [HL.out, List.length_map]; omega
        rw [List.take_succ_eq_append_getElem hil, hLi, hw, HS.out]
        congr 2
        simp only [HL.out, List.getElem_map]
        rw [List.getD_eq_getElem?_getD, List.getElem?_eq_getElem (by omega)]; rfl
      have hsub : ∀ x ∈ Li, x ∈ nodes Li := (nodes_good Li).2
      have hgood : Good (nodes Li) := (nodes_good Li).1
      have HI' := HI.out
      rw [← hLi] at HI'
      have hBx := bytes_below (Below.refl wr.heap.size wr) (Nat.le_refl _) 5 s
      have HKB := Aside0.mk (fun (j : Nat) (w2 : World) (hj : j < s.size) (hk : KeptT (Lib.bytesWorld wr 5 s) w2) => bytes_at hk hw60 j hj)
      have hszx : (Lib.bytesWorld wr 5 s).heap.size = wr.heap.size + 1 := Lib.bytesWorld_size ..
      have HX : Aside0 ((∃ ms, TrieM g0 g0 (nodes Li).length ms ((nodes Li).map (find Li)) (fsOf (nodes Li)) (Lib.bytesWorld wr 5 s)) ∧ Below g0 W (Lib.bytesWorld wr 5 s) ∧ g0 < (Lib.bytesWorld wr 5 s).heap.size) := by
        obtain ⟨_, ⟨ms, h2⟩, h3, h4, h5⟩ := HI'
        exact ⟨⟨ms, h2.below hBx⟩, h3.trans (hBx.mono (by omega)), by omega⟩
      have HPL := Aside0.mk HI'.2.2.2.1
      have HLI := Aside0.mk (And.intro hli hsnoc)
      have HSUB := Aside0.mk hsub
      have HGD := Aside0.mk hgood
      have HWS := Aside0.mk hw
      clear HI' hBx hszx hli hsnoc hsub hgood hw hw60 HI hLi
      generalize Lib.bytesWorld wr 5 s = wx at *
      go_loopw [6, 25] (fun v6 v25 w2 => ∃ j a : Nat, v6 = .int .i64 (a : Int) ∧ v25 = .int .i64 (j : Int) ∧ Aside0 (j ≤ s.size ∧ pos (addW (nodes Li) [] (w.take j)) (w.take j) = some a ∧
        (∃ ms, TrieM g0 g0 (addW (nodes Li) [] (w.take j)).length ms ((addW (nodes Li) [] (w.take j)).map (find Li)) (fsOf (addW (nodes Li) [] (w.take j))) w2) ∧ Below g0 W w2 ∧ KeptT wx w2 ∧ g0 < w2.heap.size)) (fun _ v25 _ => s.size - (intOf v25).toNat)
      case atStart => exact ⟨0, 0, rfl, rfl, ⟨Nat.zero_le _, by rw [List.take_zero]; exact pos_at HGD.out.nd HGD.out.nil, HX.out.1, HX.out.2.1, KeptT.refl _, HX.out.2.2⟩⟩
      case round =>
        obtain ⟨j, a, rfl, rfl, HI⟩ := hrel
        have hHI := HI.out
        obtain ⟨Pj, hPj⟩ : ∃ Pj, Pj = addW (nodes Li) [] (w.take j) := ⟨_, rfl⟩
        rw [← hPj] at hHI
        obtain ⟨hj, hpos, ⟨ms, hTM⟩, hBW, hKX, hG0⟩ := hHI
        have hgj := addW_good (w.take j) (nodes Li) [] HGD.out HGD.out.empty
        rw [← hPj] at hgj
        have hlenj : Pj.length ≤ 1 + 60 * i + 60 := by
          have h_ := addW_len (w.take j) (nodes Li) []
          rw [← hPj, List.length_take] at h_
          have h2_ := HPL.out; have h3_ := HW60.out; have h4_ : w.length = s.size := by rw [HWS.out, strOf_len]
          omega
        have hlen5 : Pj.length ≤ 70000 := by have h2_ := HN.out; have h3_ := HLT.out; omega
        have hwl : w.length = s.size := by rw [HWS.out, strOf_len]
        obtain ⟨haj, haL, _⟩ := pos_some _ _ _ hpos
        have HP := Aside0.mk hPj
        have HTM := Aside0.mk hTM
        have HAJ := Aside0.mk haj
        have HGJ := Aside0.mk hgj
        have HL5 := Aside0.mk hlen5
        have HB3 := Aside0.mk (And.intro hBW (And.intro hKX hG0))
        have HTA := Aside0.mk (hTM.at_ (Nat.le_refl _) hgj.1 (by omega))
        have HAL := Aside0.mk haL
        have HPOS := Aside0.mk hpos
        have HWL := Aside0.mk hwl
        clear HI
        by_cases hlt : j < s.size
        · have hd2 : decide ((j : Int) < (s.size : Int)) = true := by simp; omega
          have hdn2 : decide (j < s.size) = true := decide_eq_true hlt
          have hq2 := eq_true hlt
          have hx := HKB.out j wr hlt hKX
          have hcv := childV_at hpos ((bytesOf s).getD j 0)
          have hbt := byteOf_bt s j hlt
          rw [← HWS.out] at hbt
          rw [← hbt] at hcv
          have hbb : 0 ≤ (bytesOf s).getD j 0 ∧ (bytesOf s).getD j 0 ≤ 255 := by
            have h_ := bt_range s (j : Int)
            have h2_ := rd_bytesOf s (j : Int)
            rw [rd, Int.toNat_natCast] at h2_
            rw [h2_]; exact h_
          have hsn := addW_snoc (w.take j) (nodes Li) [] (byteOf ((bytesOf s).getD j 0))
          rw [← hbt, List.nil_append, ← hbt, ← hPj] at hsn
          obtain ⟨c, hc⟩ : ∃ c, c = (bytesOf s).getD j 0 := ⟨_, rfl⟩
          rw [← hc] at hx hcv hbb hbt
          have HCB := Aside0.mk hbb
          have HSN := Aside0.mk hsn
          have HBT := Aside0.mk hbt
          have hjj : wrap64 ((j : Int) + 1) = ((j + 1 : Nat) : Int) := by rw [w64s (by omega) (by have h_ := HW60.out; omega)]; omega
          obtain ⟨z, hz⟩ : ∃ z : Int, z = ((j + 1 : Nat) : Int) := ⟨_, rfl⟩
          rw [← hz] at hjj
          have hjj2 : IntKind.i64.wrap ((j : Int) + 1) = z := (i64_w _).trans hjj
          have HZ := Aside0.mk hz
          have HLT2 := Aside0.mk hlt
          have hq3 := eq_true haL
          cases hpn : pos Pj (w.take (j + 1)) with
          | some k =>
            rw [hpn] at hcv
            have HC1 := Aside0.mk (show (childV Pj (a : Int) c).1 = (k : Int) by rw [hcv])
            have HC2 := Aside0.mk (show (childV Pj (a : Int) c).2 = true by rw [hcv])
            have HPN := Aside0.mk hpn
            clear hPj hpos hTM hBW hKX hG0 hgj hlenj hlen5 hwl haj haL hlt hcv hbt hbb hsn hc hz hpn hj
            go_wp2_with (first | (go_at_call 19; (with_reducible refine (child_calls HTA.out (a : Int) c HCB.out.1 HCB.out.2).mono ?_); rintro e w' ⟨rfl, ⟨q, rfl⟩⟩; rw [HC1.out, HC2.out]))
            clear hjj hjj2
            go_roundw
            case rel =>
              refine ⟨j + 1, k, rfl, congrArg _ HZ.out, ⟨HLT2.out, ?_⟩⟩
              have hm : w.take (j + 1) ∈ Pj := List.mem_of_getElem? (pos_some _ _ _ HPN.out).1
              have e1 := HSN.out
              rw [if_pos hm] at e1
              rw [e1]
              have hbd := pw_below_drewN (Below.refl wr.heap.size wr) q
              exact ⟨HPN.out, ⟨ms, HTM.out.below hbd⟩, pw_below_drewN HB3.out.1 q, HB3.out.2.1.trans (KeptT.below hbd), HB3.out.2.2⟩
            case measure => have h1_ := HLT2.out; have h2_ := HZ.out; simp [intOf]; omega
          | none =>
            rw [hpn] at hcv
            have HC1 := Aside0.mk (show (childV Pj (a : Int) c).1 = 0 by rw [hcv])
            have HC2 := Aside0.mk (show (childV Pj (a : Int) c).2 = false by rw [hcv])
            have HPN := Aside0.mk hpn
            have hq4 := eq_true (show (a : Int) < (Pj.length : Int) + 1 by omega)
            have HMq : ∀ q, Aside0 (TrieM g0 g0 Pj.length ms (Pj.map (find Li)) (fsOf Pj) (wr.drewN q) ∧ g0 ≤ (wr.drewN q).heap.size ∧ Pj.length ≤ 100000) := fun q => ⟨HTM.out.below (pw_below_drewN (Below.refl wr.heap.size wr) q), Nat.le_of_lt HB3.out.2.2, by have h_ := HL5.out; omega⟩
            clear hPj hpos hTM hBW hKX hG0 hgj hlenj hlen5 hwl haj haL hlt hcv hbt hbb hsn hc hz hpn hj
            go_wp2_with (first
              | (go_at_call 19; (with_reducible refine (child_calls HTA.out (a : Int) c HCB.out.1 HCB.out.2).mono ?_); rintro e w' ⟨rfl, ⟨q, rfl⟩⟩; rw [HC1.out, HC2.out])
              | (go_at_call 23; (with_reducible refine (growP (HMq q).out.1 (HMq q).out.2.1 (HMq q).out.2.2 a HAL.out).mono ?_); rintro e w3 ⟨rfl, ⟨g2, cap2, m2, f2, D2, c2, n2, HG2⟩⟩)
              | (at_mapUpdate; refine wpList_mapUpdate_own (H := Unit) _ rfl _ _ _ 50 rfl 5 3 K5 Try.underlying50 (plainElem Try.prog 3) m2 Pj.length D2 rfl HG2.out.2.2.2.2.2.2.1 (by have h_ := HL5.out; unfold maxLen; omega) _ _ (.int .u8 c) rfl rfl (key8 HCB.out.1 HCB.out.2) (.lit (.int .i64 ((Pj.length : Nat) : Int))) [] (el64 (by have h_ := HL5.out; omega)) ?_; intro w4 hD4 hG4; have HD4 := Aside0.mk (And.intro hD4 hG4); clear hD4 hG4))
            clear hjj hjj2
            go_roundw
            case rel =>
              have hm : ¬ w.take (j + 1) ∈ Pj := (pos_none _ _).1 HPN.out
              have e1 := HSN.out
              rw [if_neg hm] at e1
              refine ⟨j + 1, Pj.length, rfl, congrArg _ HZ.out, ⟨HLT2.out, ?_⟩⟩
              rw [e1]
              obtain ⟨hT2, hB2, hlt2, hK2, hm2, hf2, hD2, hR2⟩ := HG2.out
              obtain ⟨hT3, hK3, hB3⟩ := hT2.put hm2 hf2 hD2 hR2 HCB.out.1 HCB.out.2 (k := Pj.length) HD4.out.1 HD4.out.2
              have hnm : w.take j ++ [byteOf c] ∉ Pj := by rw [← HBT.out]; exact hm
              have hgs := grown_fs HGJ.out.1 HAJ.out HCB.out.1 HCB.out.2 hnm hf2
              rw [← HBT.out] at hgs
              have hT4 := hT3.congr (fs' := fsOf (Pj ++ [w.take (j + 1)])) (by rw [fsOf_len, List.length_set, List.length_append, List.length_append, fsOf_len]; rfl) hgs
              rw [map_snoc_new (find_new (P := Pj) (fun x hx => HGJ.out.2.1 x (HSUB.out x hx)) hm)] at hT4
              have hpl : (Pj ++ [w.take (j + 1)]).length = Pj.length + 1 := by rw [List.length_append]; rfl
              have hbd := pw_below_drewN (Below.refl wr.heap.size wr) q
              have hgq : g0 < wr.heap.size := HB3.out.2.2
              have hszq : (wr.drewN q).heap.size = wr.heap.size := rfl
              refine ⟨?_, ⟨_, by rw [hpl]; exact hT4⟩, ((pw_below_drewN HB3.out.1 q).trans hB2).trans hB3, ((HB3.out.2.1.trans (KeptT.below hbd)).trans hK2).trans hK3, ?_⟩
              · rw [pos_append, HPN.out, if_pos rfl]
              · have := hB3.size; omega
            case measure => have h1_ := HLT2.out; have h2_ := HZ.out; simp [intOf]; omega
        · have hjs : j = s.size := by omega
          have hd2 : decide ((j : Int) < (s.size : Int)) = false := by simp; omega
          have hdn2 : decide (j < s.size) = false := decide_eq_false hlt
          have hq2 := eq_false hlt
          have htk : w.take j = w := List.take_of_length_le (by omega)
          rw [htk] at hPj haj hpos
          have hq3 := eq_true (show (a : Int) < (Pj.length : Int) by omega)
          obtain ⟨g, cap, m, f, D, c1, r1, n0, n1, fz, _, _, _, _⟩ := hTM.node a (by rw [fsOf_len]; exact haL)
          rw [fsOf_len] at c1
          rw [map_getD haj] at n1
          have hgg : g ≠ g0 := fun e => by
            obtain ⟨v, e1, e2⟩ := hTM.ex
            obtain ⟨g', cap', eq, _, _, cells, hcells⟩ := Kd.R_form r1 (by rw [len_zip hTM.l1 hTM.l2, fsOf_len]; omega)
            injection eq with q1 q2 q3
            injection q1 with q1
            injection q1 with q1
            rw [← q1, e, e1] at hcells
            injection hcells with q
            injection q with q1 q2
            exact absurd q2 (by decide)
          have HPJ := Aside0.mk hPj
          have HAJ2 := Aside0.mk haj
          have HR1 := Aside0.mk c1
          have hii : wrap64 ((i : Int) + 1) = ((i + 1 : Nat) : Int) := by have h_ := HN.out; have h2_ := HLT.out; rw [w64s (by omega) (by omega)]; omega
          obtain ⟨z, hz⟩ : ∃ z : Int, z = ((i + 1 : Nat) : Int) := ⟨_, rfl⟩
          rw [← hz] at hii
          have hii2 : IntKind.i64.wrap ((i : Int) + 1) = z := (i64_w _).trans hii
          have HZ := Aside0.mk hz
          have HLJ := Aside0.mk hlenj
          have hsn : addW (nodes Li) [] w = nodes (Li ++ [w]) := (nodes_snoc Li w).symm
          have HNS := Aside0.mk (show Pj = nodes (l.take (i + 1)) by rw [hPj, hsn, HLI.out.2])
          by_cases hfw : find Li w = -1
          · rw [hfw] at n1
            have HF := Aside0.mk hfw
            clear hPj hpos hTM hBW hKX hG0 hgj hlenj hlen5 hwl haj haL hlt hz hj hsn htk hjs r1 HAJ HP
            go_wp2
            go_roundw
            case rel =>
              refine ⟨i + 1, congrArg _ HZ.out, ⟨HLT.out, ?_⟩⟩
              obtain ⟨hT3, hK3, hB3⟩ := HTM.out.word (a := a) (by rw [fsOf_len]; exact HAL.out) (by rw [fsOf_len]; exact HR1.out) (i : Int)
              rw [← HLI.out.1, find_set HGJ.out.1 HAJ2.out HF.out, ← HLI.out.2] at hT3
              rw [← HNS.out]
              rw [HLI.out.1] at hT3
              refine ⟨⟨ms, hT3⟩, HB3.out.1.trans hB3, by have h_ := HLJ.out; omega, ?_⟩
              have := hB3.size; have h2_ := HB3.out.2.2; omega
            case measure => have h1_ := HLT.out; have h2_ := HZ.out; simp [intOf]; omega
          · have hb1 : (find Li w == -1) = false := beq_eq_false_iff_ne.2 hfw
            have hb2 := eq_false hfw
            have HF := Aside0.mk hfw
            clear hPj hpos hTM hBW hKX hG0 hgj hlenj hlen5 hwl haj haL hlt hz hj hsn htk hjs r1 HAJ HP hfw
            go_wp2
            go_roundw
            case rel =>
              refine ⟨i + 1, congrArg _ HZ.out, ⟨HLT.out, ?_⟩⟩
              have hT3 := HTM.out
              rw [find_same HF.out, ← HLI.out.2] at hT3
              rw [← HNS.out]
              exact ⟨⟨ms, hT3⟩, HB3.out.1, by have h_ := HLJ.out; omega, HB3.out.2.2⟩
            case measure => have h1_ := HLT.out; have h2_ := HZ.out; simp [intOf]; omega
    · have hd : decide ((i : Int) < (n : Int)) = false := by simp; omega
      have hdn : decide (i < n) = false := decide_eq_false hlt
      have hq1 := eq_false hlt
      have hin : i = n := by have := HI.out.1; omega
      subst hin
      have htk : l.take i = l := List.take_of_length_le (by rw [HL.out, List.length_map]; have := HLEN.out; omega)
      have hHI := HI.out
      rw [htk] at hHI
      obtain ⟨_, ⟨ms, hT⟩, hB, hL, hG⟩ := hHI
      have HT := Aside0.mk (hT.at_ (Nat.le_refl _) (nodes_good l).1 (by have := HN.out; omega))
      have HB := Aside0.mk hB
      have HG := Aside0.mk hG
      clear hT hB hL hG HI htk hlt
      go_wp2
      refine bodyPost_ret (v := .pointer (some ⟨g0, 0, none⟩)) (by simp [results, Try.f11, go_sem]) rfl ⟨g0, rfl, ?_, HG.out, ?_, ?_⟩
      · rw [HV0.out]; exact Nat.le_refl _
      · rw [HV0.out]; exact HT.out
      · rw [HV0.out]; exact HB.out
end Go.Proofs.Ytgdipibmaaehcaa.Tr
