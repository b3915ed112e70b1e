/- The law's finds, goes, awake. Conditions: those in each theorem. -/
import Derived.Test.YtgdipibmaaehcaaTr9
namespace Go.Proofs.Ytgdipibmaaehcaa.Tr
open Go Go.RowKit Go.Proofs.Ytgdipibmaaehcaa Go.Proofs.Ytgdipibmaaehcaa.Sq Go.Proofs.YtgdipibmaaehcaaW.PrintWords Go.Proofs.YtgdipibmaaehcaaW.PrintLast Go.Proofs.YtgdipibmaaehcaaW.PrintMore
set_option linter.unusedVariables false
set_option linter.unusedSimpArgs false
/-- A trie of words: its nodes are the words' beginnings, each with its word. -/
abbrev TrieOf (gt base : Nat) (l : List Str) (W : World) : Prop := TrieAt gt base (nodes l) ((nodes l).map (find l)) W
theorem wordV_nodes {l : List Str} {s : Str} {k : Nat} (h : pos (nodes l) s = some k) : wordV (nodes l) ((nodes l).map (find l)) (k : Int) = if find l s = -1 then (0, false) else (find l s, true) := by
  obtain ⟨h1, h2, _⟩ := pos_some _ _ _ h
  unfold wordV
  rw [if_pos ⟨by omega, by omega⟩, Int.toNat_natCast, map_getD h1]
theorem findV_nodes (l : List Str) (s : Str) : findV (nodes l) ((nodes l).map (find l)) s = if find l s = -1 then (0, false) else (find l s, true) := by
  unfold findV
  cases h : pos (nodes l) s with
  | none =>
    have : s ∉ l := fun hm => (pos_none _ _).1 h ((nodes_good l).2 s hm)
    rw [if_pos (find_neg.2 this)]
  | some k => exact wordV_nodes h
set_option maxHeartbeats 2000000 in
theorem finds_calls {W : World} {gt base : Nat} {A : Option Addr} {n cp : Nat} {ws : List ByteArray} (hr : Kd.C Kd.string W A n ws) (hn : n ≤ 1000) (hT : TrieOf gt base (ws.map strOf) W) (s : ByteArray) (hs : s.size ≤ 140737488351232) :
    Calls Try.prog 16 #[.pointer (some ⟨gt, 0, none⟩), .slice A n cp, .string s] W fun e w' => e = .returned (.bool true) ∧ Below W.heap.size W w' := by
  have hv := findV_nodes (ws.map strOf) (strOf s)
  have HR := Aside0.mk hr
  have HT := Aside0.mk hT
  have HN := Aside0.mk (show n ≤ 140737488351232 by omega)
  have HS := Aside0.mk hs
  obtain ⟨F, hF⟩ : ∃ F, F = find (ws.map strOf) (strOf s) := ⟨_, rfl⟩
  rw [← hF] at hv
  have HF := Aside0.mk hF
  have HB := Aside0.mk (Below.refl W.heap.size W)
  rcases find_nonneg (ws.map strOf) (strOf s) with hneg | hpos
  · have hF1 : F = -1 := by rw [hF, hneg]
    subst hF1
    rw [if_pos rfl] at hv
    have HV := Aside0.mk hv
    clear hr hT hn hs hF hv hneg
    go_enter Try.func16, Try.ntmps16
    go_wp2_with (first
      | (go_at_call 14; (with_reducible refine (find_calls HT.out s HS.out).mono ?_); rintro e w_ ⟨rfl, hb⟩; rw [HV.out]; replace HB := sb HB hb; clear hb)
      | (go_at_call 15; (with_reducible refine (rfind_calls (Kd.C_below HR.out HB.out) HN.out s).mono ?_); rintro e w_ ⟨rfl, ⟨q, rfl⟩⟩; rw [← HF.out]))
    exact bodyPost_ret (v := .bool true) (by simp [results, Try.f16, go_sem]) rfl ⟨rfl, bl HB.out⟩
  · have hF1 : ¬ F = -1 := by omega
    rw [if_neg hF1] at hv
    have HV := Aside0.mk hv
    have hd : decide (0 ≤ F) = true := by rw [hF]; simpa using hpos
    have hq := eq_true (show 0 ≤ F by omega)
    clear hr hT hn hs hF hv hpos hF1
    go_enter Try.func16, Try.ntmps16
    go_wp2_with (first
      | (go_at_call 14; (with_reducible refine (find_calls HT.out s HS.out).mono ?_); rintro e w_ ⟨rfl, hb⟩; rw [HV.out]; replace HB := sb HB hb; clear hb)
      | (go_at_call 15; (with_reducible refine (rfind_calls (Kd.C_below HR.out HB.out) HN.out s).mono ?_); rintro e w_ ⟨rfl, ⟨q, rfl⟩⟩; rw [← HF.out]))
    exact bodyPost_ret (v := .bool true) (by simp [results, Try.f16, go_sem]) rfl ⟨rfl, bl HB.out⟩
set_option maxHeartbeats 4000000 in
theorem goes_calls {W : World} {gt base : Nat} {A : Option Addr} {n cp : Nat} {ws : List ByteArray} (hr : Kd.C Kd.string W A n ws) (hn : n ≤ 1000) (hw : ∀ x ∈ ws, x.size ≤ 60) (hT : TrieOf gt base (ws.map strOf) W) (s : ByteArray) (hs : s.size ≤ 140737488351232) :
    Calls Try.prog 17 #[.pointer (some ⟨gt, 0, none⟩), .slice A n cp, .string s] W fun e w' => e = .returned (.bool true) ∧ Below W.heap.size W w' := by
  obtain ⟨l, hl⟩ : ∃ l, l = ws.map strOf := ⟨_, rfl⟩
  obtain ⟨P, hP⟩ : ∃ P, P = nodes l := ⟨_, rfl⟩
  rw [← hl] at hT
  have HGD := Aside0.mk (show Good P by rw [hP]; exact (nodes_good l).1)
  unfold TrieOf at hT
  rw [← hP] at hT
  have HR := Aside0.mk hr
  have HT := Aside0.mk hT
  have HN := Aside0.mk hn
  have HW := Aside0.mk hw
  have HS := Aside0.mk hs
  have HL := Aside0.mk (And.intro hl hP)
  clear hr hT hn hs hl hP hw
  go_enter Try.func17, Try.ntmps17
  go_wp2_with fail
  go_loopw [7, 8, 9] (fun v7 v8 v9 wr => ∃ (i a : Nat) (b : Bool), v7 = .int .i64 (a : Int) ∧ v8 = .bool b ∧ v9 = .int .i64 (i : Int) ∧ Aside0 (i ≤ s.size ∧ Drawn0 W wr ∧ ((b = true ∧ pos P ((strOf s).take i) = some a) ∨ (b = false ∧ a = 0 ∧ strOf s ∉ P)))) (fun _ _ v9 _ => s.size - (intOf v9).toNat)
  case atStart => exact ⟨0, 0, true, rfl, rfl, rfl, ⟨Nat.zero_le _, Drawn0.refl _, .inl ⟨rfl, by rw [List.take_zero]; exact pos_at HGD.out.nd HGD.out.nil⟩⟩⟩
  case round =>
    obtain ⟨i, a, b, rfl, rfl, rfl, HI⟩ := hrel
    obtain ⟨hi, ⟨q, rfl⟩, hb⟩ := HI.out
    by_cases hlt : i < s.size ∧ b = true
    · obtain ⟨hlt, rfl⟩ := hlt
      have hpos : pos P ((strOf s).take i) = some a := by rcases hb with h | h; exact h.2; exact absurd h.1 (by decide)
      have hd : decide ((i : Int) < (s.size : Int)) = true := by simp; omega
      have hq1 := eq_true hlt
      have hbt : ∀ h : i < s.size, ((s[i]'h).toNat : Int) = (bytesOf s).getD i 0 := fun h => by
        have h_ := bt_at s (i : Int) (by rw [Int.toNat_natCast]; exact h)
        have h2_ := rd_bytesOf s (i : Int)
        rw [rd, Int.toNat_natCast] at h2_
        rw [h2_, ← h_]
        rfl
      have hbb : 0 ≤ (bytesOf s).getD i 0 ∧ (bytesOf s).getD i 0 ≤ 255 := by
        have h_ := bt_range s (i : Int)
        have h2_ := rd_bytesOf s (i : Int)
        rw [rd, Int.toNat_natCast] at h2_
        rw [h2_]; exact h_
      have hcv := childV_at hpos ((bytesOf s).getD i 0)
      rw [← byteOf_bt s i hlt] at hcv
      obtain ⟨c, hc⟩ : ∃ c, c = (bytesOf s).getD i 0 := ⟨_, rfl⟩
      rw [← hc] at hcv hbb
      simp only [← hc] at hbt
      have HCB := Aside0.mk hbb
      have hii : wrap64 ((i : Int) + 1) = ((i + 1 : Nat) : Int) := by have h_ := HS.out; rw [w64s (by omega) (by omega)]; omega
      obtain ⟨z, hz⟩ : ∃ z : Int, z = ((i + 1 : Nat) : Int) := ⟨_, rfl⟩
      rw [← hz] at hii
      have hii2 : IntKind.i64.wrap ((i : Int) + 1) = z := (i64_w _).trans hii
      have HZ := Aside0.mk hz
      have HLT := Aside0.mk hlt
      have HTq : Aside0 (TrieAt gt base P (P.map (find l)) (W.drewN q)) := ⟨HT.out.below (pw_below_drewN (Below.refl _ _) q)⟩
      have hq2 := eq_true (show (i : Int) < (s.size : Int) by omega)
      cases hpn : pos P ((strOf s).take (i + 1)) with
      | some k =>
        rw [hpn] at hcv
        have HC1 := Aside0.mk (show (childV P (a : Int) c).1 = (k : Int) by rw [hcv])
        have HC2 := Aside0.mk (show (childV P (a : Int) c).2 = true by rw [hcv])
        have HPN := Aside0.mk hpn
        clear hb hi hpos hcv hbb hc hz hlt hpn
        go_wp2_with (first | (go_at_call 19; (with_reducible refine (child_calls HTq.out (a : Int) c HCB.out.1 HCB.out.2).mono ?_); rintro e w' ⟨rfl, ⟨q2, rfl⟩⟩; rw [HC1.out, HC2.out]))
        clear hii hii2
        go_roundw
        case rel => exact ⟨i + 1, k, true, rfl, rfl, congrArg _ HZ.out, ⟨HLT.out, ⟨⟨q + q2, rfl⟩⟩, .inl ⟨rfl, HPN.out⟩⟩⟩
        case measure => have h1_ := HLT.out; have h2_ := HZ.out; simp [intOf]; omega
      | none =>
        rw [hpn] at hcv
        have HC1 := Aside0.mk (show (childV P (a : Int) c).1 = ((0 : Nat) : Int) by rw [hcv]; rfl)
        have HC2 := Aside0.mk (show (childV P (a : Int) c).2 = false by rw [hcv])
        have hnot : strOf s ∉ P := by
          rw [pos_none] at hpn
          intro hm
          refine hpn (HGD.out.pre ((strOf s).drop (i + 1)) _ ?_)
          rw [List.take_append_drop]; exact hm
        have HNOT := Aside0.mk hnot
        clear hb hi hpos hcv hbb hc hz hlt hpn hnot
        go_wp2_with (first | (go_at_call 19; (with_reducible refine (child_calls HTq.out (a : Int) c HCB.out.1 HCB.out.2).mono ?_); rintro e w' ⟨rfl, ⟨q2, rfl⟩⟩; rw [HC1.out, HC2.out]))
        clear hii hii2
        go_roundw
        case rel => exact ⟨i + 1, 0, false, rfl, rfl, congrArg _ HZ.out, ⟨HLT.out, ⟨⟨q + q2, rfl⟩⟩, .inr ⟨rfl, rfl, HNOT.out⟩⟩⟩
        case measure => have h1_ := HLT.out; have h2_ := HZ.out; simp [intOf]; omega
    · have hdn : (i < s.size ∧ b = true) = False := eq_false hlt
      have hfin : pos P (strOf s) = (if b then some a else none) ∧ (b = false → a = 0) := by
        rcases hb with ⟨rfl, h⟩ | ⟨rfl, h1, h2⟩
        · have : i = s.size := by
            have : ¬ i < s.size := fun h => hlt ⟨h, rfl⟩
            omega
          rw [List.take_of_length_le (by rw [strOf_len]; omega)] at h
          exact ⟨h, fun h => absurd h (by decide)⟩
        · exact ⟨(pos_none _ _).2 h2, fun _ => h1⟩
      have haP : a < P.length := by
        cases b with
        | true => exact (pos_some _ _ _ hfin.1).2.1
        | false => rw [hfin.2 rfl]; have := HGD.out.nil; obtain ⟨h, _⟩ := List.getElem?_eq_some_iff.1 this; exact h
      have hge : decide (0 ≤ find P (strOf s)) = b := by
        cases b with
        | true => have h := hfin.1; rw [if_pos rfl] at h; unfold find; rw [h]; simp
        | false => rw [find_neg.2 ((pos_none _ _).1 (by have h := hfin.1; simpa using h))]; rfl
      have hex : ((decide ((i : Int) < (s.size : Int)) && b) = false) := by
        cases b with
        | true => have : ¬ i < s.size := fun h => hlt ⟨h, rfl⟩; simp; omega
        | false => simp
      have HB := Aside0.mk (Below.refl W.heap.size W)
      have HOL : Aside0 (∀ out : List ByteArray, out.map strOf = nodes (ws.map strOf) → out.length ≤ 140737488351232) := ⟨fun out h => by
        have h_ := HT.out.small
        rw [HL.out.2, HL.out.1, ← h, List.length_map] at h_
        omega⟩
      obtain ⟨G, hG⟩ : ∃ G, G = find P (strOf s) := ⟨_, rfl⟩
      have HOG : Aside0 (∀ out : List ByteArray, out.map strOf = nodes (ws.map strOf) → find (out.map strOf) (strOf s) = G) := ⟨fun out h => by rw [h, ← HL.out.1, ← HL.out.2, hG]⟩
      rw [← hG] at hge
      have HN2 := Aside0.mk (show n ≤ 140737488351232 by have := HN.out; omega)
      obtain ⟨F, hF⟩ : ∃ F, F = find l (strOf s) := ⟨_, rfl⟩
      have HF := Aside0.mk (show F = find (ws.map strOf) (strOf s) by rw [hF, HL.out.1])
      have ha1 : decide ((P.length : Int) ≤ (a : Int)) = false := by simp; omega
      have ha2 := eq_false (show ¬ (P.length : Int) ≤ (a : Int) by omega)
      have ha3 := eq_false (show ¬ P.length ≤ a by omega)
      have hge2 : (0 ≤ G) = (b = true) := by rw [← hge]; simp
      cases b with
      | true =>
        have hps := hfin.1
        rw [if_pos rfl, HL.out.2] at hps
        have hwv := wordV_nodes hps
        rw [← HL.out.2, ← hF] at hwv
        have hir : decide ((i : Int) < (s.size : Int)) = false := by simpa using hex
        have hir2 := eq_false (fun h : i < s.size => hlt ⟨h, rfl⟩)
        rcases find_nonneg l (strOf s) with hneg | hpos
        · have hF1 : F = -1 := by rw [hF, hneg]
          subst hF1
          rw [if_pos rfl] at hwv
          have HWV := Aside0.mk hwv
          clear hb hi hlt hdn hfin haP hex hG hF hps hwv hneg
          go_wp2_with (first
          | (go_at_call 13; (((with_reducible refine (nodes_calls (Kd.C_below HR.out (bl HB.out)) HN.out HW.out).mono ?_); rintro e w_ ⟨v3, out, rfl, hR3, hx3, hb3⟩; obtain ⟨A3, c3, rfl⟩ := Kd.R_slice hR3; replace HB := sb HB hb3; have HO := Aside0.mk (And.intro (Kd.R_reads' hR3).2.2 hx3); clear hR3 hx3 hb3)))
          | (go_at_call 15; (with_reducible refine (rfind_calls HO.out.1 (HOL.out out HO.out.2) s).mono ?_); rintro e w_ ⟨rfl, ⟨q2, rfl⟩⟩; rw [HOG.out out HO.out.2])
          | (go_at_call 15; (with_reducible refine (rfind_calls (Kd.C_below HR.out (bl HB.out)) HN2.out s).mono ?_); rintro e w_ ⟨rfl, ⟨q3, rfl⟩⟩; rw [← HF.out])
          | (go_at_call 12; (with_reducible refine (len_calls (HT.out.below (bl HB.out))).mono ?_); rintro e w_ ⟨rfl, ⟨q4, rfl⟩⟩)
          | (go_at_call 22; (with_reducible refine (word_calls (HT.out.below (bl HB.out)) (a : Int)).mono ?_); rintro e w_ ⟨rfl, ⟨q5, rfl⟩⟩; rw [HWV.out]))
          all_goals exact bodyPost_ret (v := .bool true) (by simp [results, Try.f17, go_sem]) rfl ⟨rfl, bl HB.out⟩
        · have hF1 : ¬ F = -1 := by omega
          rw [if_neg hF1] at hwv
          have HWV := Aside0.mk hwv
          have hd : decide (0 ≤ F) = true := by rw [hF]; simpa using hpos
          have hq := eq_true (show 0 ≤ F by omega)
          clear hb hi hlt hdn hfin haP hex hG hF hps hwv hpos hF1
          go_wp2_with (first
          | (go_at_call 13; (((with_reducible refine (nodes_calls (Kd.C_below HR.out (bl HB.out)) HN.out HW.out).mono ?_); rintro e w_ ⟨v3, out, rfl, hR3, hx3, hb3⟩; obtain ⟨A3, c3, rfl⟩ := Kd.R_slice hR3; replace HB := sb HB hb3; have HO := Aside0.mk (And.intro (Kd.R_reads' hR3).2.2 hx3); clear hR3 hx3 hb3)))
          | (go_at_call 15; (with_reducible refine (rfind_calls HO.out.1 (HOL.out out HO.out.2) s).mono ?_); rintro e w_ ⟨rfl, ⟨q2, rfl⟩⟩; rw [HOG.out out HO.out.2])
          | (go_at_call 15; (with_reducible refine (rfind_calls (Kd.C_below HR.out (bl HB.out)) HN2.out s).mono ?_); rintro e w_ ⟨rfl, ⟨q3, rfl⟩⟩; rw [← HF.out])
          | (go_at_call 12; (with_reducible refine (len_calls (HT.out.below (bl HB.out))).mono ?_); rintro e w_ ⟨rfl, ⟨q4, rfl⟩⟩)
          | (go_at_call 22; (with_reducible refine (word_calls (HT.out.below (bl HB.out)) (a : Int)).mono ?_); rintro e w_ ⟨rfl, ⟨q5, rfl⟩⟩; rw [HWV.out]))
          all_goals exact bodyPost_ret (v := .bool true) (by simp [results, Try.f17, go_sem]) rfl ⟨rfl, bl HB.out⟩
      | false =>
        obtain ⟨r1, hr1⟩ : ∃ r, wordV P (P.map (find l)) (a : Int) = r := ⟨_, rfl⟩
        have HWV := Aside0.mk hr1
        clear hb hi hlt hdn hfin haP hex hG hF hr1
        go_wp2_with (first
          | (go_at_call 13; (((with_reducible refine (nodes_calls (Kd.C_below HR.out (bl HB.out)) HN.out HW.out).mono ?_); rintro e w_ ⟨v3, out, rfl, hR3, hx3, hb3⟩; obtain ⟨A3, c3, rfl⟩ := Kd.R_slice hR3; replace HB := sb HB hb3; have HO := Aside0.mk (And.intro (Kd.R_reads' hR3).2.2 hx3); clear hR3 hx3 hb3)))
          | (go_at_call 15; (with_reducible refine (rfind_calls HO.out.1 (HOL.out out HO.out.2) s).mono ?_); rintro e w_ ⟨rfl, ⟨q2, rfl⟩⟩; rw [HOG.out out HO.out.2])
          | (go_at_call 15; (with_reducible refine (rfind_calls (Kd.C_below HR.out (bl HB.out)) HN2.out s).mono ?_); rintro e w_ ⟨rfl, ⟨q3, rfl⟩⟩; rw [← HF.out])
          | (go_at_call 12; (with_reducible refine (len_calls (HT.out.below (bl HB.out))).mono ?_); rintro e w_ ⟨rfl, ⟨q4, rfl⟩⟩)
          | (go_at_call 22; (with_reducible refine (word_calls (HT.out.below (bl HB.out)) (a : Int)).mono ?_); rintro e w_ ⟨rfl, ⟨q5, rfl⟩⟩; rw [HWV.out]))
        all_goals exact bodyPost_ret (v := .bool true) (by simp [results, Try.f17, go_sem]) rfl ⟨rfl, bl HB.out⟩
def awakeWs : List ByteArray := [⟨#[109]⟩, ⟨#[109, 111, 108]⟩, ⟨#[109, 105, 110]⟩]
theorem awake_nodes : nodes (awakeWs.map strOf) = [[], [109], [109, 111], [109, 111, 108], [109, 105], [109, 105, 110]] := by decide
theorem awake_row (W : World) : Kd.C Kd.string (W.alloc (.cells #[.string ⟨#[109]⟩, .string ⟨#[109, 111, 108]⟩, .string ⟨#[109, 105, 110]⟩] 9)) (some ⟨W.heap.size, 0, none⟩) 3 awakeWs :=
  (Kd.R_reads' (Kd.R_of_own (h1 := fun _ => rfl) (own_lit_of (enc := Value.string) W W.heap.size 9 awakeWs (Nat.le_refl _) (by decide)) (ok := fun _ => True) (fun _ _ => trivial))).2.2
theorem awake_small : ∀ s ∈ awakeWs, s.size ≤ 60 := by
  intro s hs
  simp [awakeWs] at hs
  rcases hs with rfl | rfl | rfl <;> decide
set_option maxHeartbeats 2000000 in
theorem awake_calls (W : World) : Calls Try.prog 9 #[] W fun e w' => e = .returned (.bool true) ∧ Below W.heap.size W w' := by
  have hv1 : findV (nodes (awakeWs.map strOf)) ((nodes (awakeWs.map strOf)).map (find (awakeWs.map strOf))) (strOf ⟨#[109, 105, 110]⟩) = (2, true) := by rw [findV_nodes]; decide
  have hv2 : findV (nodes (awakeWs.map strOf)) ((nodes (awakeWs.map strOf)).map (find (awakeWs.map strOf))) (strOf ⟨#[109, 105]⟩) = (0, false) := by rw [findV_nodes]; decide
  have hln : (nodes (awakeWs.map strOf)).length = 6 := by rw [awake_nodes]; rfl
  have HV1 := Aside0.mk hv1
  have HV2 := Aside0.mk hv2
  have HLN := Aside0.mk hln
  have HB := Aside0.mk (Below.refl W.heap.size W)
  clear hv1 hv2 hln
  go_enter Try.func9, Try.ntmps9
  go_wp2_with (first
    | (go_at_call 11; (with_reducible refine (build_calls (awake_row _) (by decide) awake_small).mono ?_); rintro e w_ ⟨gt, rfl, h1, h2, hT, hb⟩; have HT : Aside0 (∃ base, TrieOf gt base (awakeWs.map strOf) w_) := ⟨_, hT⟩; replace HB := sb HB hb; clear hb hT h1 h2)
    | (go_at_call 14; obtain ⟨base, hT⟩ := HT.out; (with_reducible refine (find_calls hT ⟨#[109, 105, 110]⟩ (by decide)).mono ?_); rintro e w_ ⟨rfl, hb⟩; rw [HV1.out]; replace HB := sb HB hb; replace HT : Aside0 (∃ base, TrieOf gt base (awakeWs.map strOf) w_) := ⟨_, hT.below hb⟩; clear hb hT)
    | (go_at_call 14; obtain ⟨base, hT⟩ := HT.out; (with_reducible refine (find_calls hT ⟨#[109, 105]⟩ (by decide)).mono ?_); rintro e w_ ⟨rfl, hb⟩; rw [HV2.out]; replace HB := sb HB hb; replace HT : Aside0 (∃ base, TrieOf gt base (awakeWs.map strOf) w_) := ⟨_, hT.below hb⟩; clear hb hT)
    | (go_at_call 12; obtain ⟨base, hT⟩ := HT.out; (with_reducible refine (len_calls hT).mono ?_); rintro e w_ ⟨rfl, ⟨q4, rfl⟩⟩; rw [HLN.out]; clear hT))
  exact bodyPost_ret (v := .bool true) (by simp [results, Try.f9, go_sem]) rfl ⟨rfl, bl HB.out⟩
end Go.Proofs.Ytgdipibmaaehcaa.Tr
