/- TrieTurned walked. Its conditions: a text of less than 2^47 bytes; the words as they stand. -/
import Derived.Test.YtgdipibmaaehcaaTrC
namespace Go.Proofs.Ytgdipibmaaehcaa.Tr
open Go Go.RowKit Go.Proofs.Ytgdipibmaaehcaa Go.Proofs.Ytgdipibmaaehcaa.Sq Go.Proofs.YtgdipibmaaehcaaW.PrintWords Go.Proofs.YtgdipibmaaehcaaW.PrintLast Go.Proofs.YtgdipibmaaehcaaW.PrintMore
set_option linter.unusedVariables false
set_option linter.unusedSimpArgs false
theorem len_le_of_sub : ∀ {a b : List Str}, a.Nodup → (∀ x ∈ a, x ∈ b) → a.length ≤ b.length := by
  intro a
  induction a with
  | nil => intro b _ _; simp
  | cons x a ih =>
    intro b hn hs
    rw [List.nodup_cons] at hn
    have hx : x ∈ b := hs x (by simp)
    have h1 : a.length ≤ (b.erase x).length := ih hn.2 (fun y hy => by
      have hyx : y ≠ x := fun e => hn.1 (e ▸ hy)
      exact (List.mem_erase_of_ne hyx).2 (hs y (List.mem_cons_of_mem _ hy)))
    rw [List.length_erase_of_mem hx] at h1
    have : 0 < b.length := List.length_pos_of_mem hx
    simp; omega
theorem nodes_turned (l : List Str) : (nodes l.reverse).length = (nodes l).length := by
  have h1 := (nodes_good l).1.nd
  have h2 := (nodes_good l.reverse).1.nd
  have e : ∀ x, x ∈ nodes l.reverse ↔ x ∈ nodes l := fun x => by
    rw [nodes_mem, nodes_mem]; simp
  have a := len_le_of_sub h2 (fun x hx => (e x).1 hx)
  have b := len_le_of_sub h1 (fun x hx => (e x).2 hx)
  omega
theorem find_turned (l : List Str) (s : Str) : find l.reverse s = -1 ↔ find l s = -1 := by rw [find_neg, find_neg]; simp
/-- A word's number, in a row of texts: there it stands. -/
theorem find_here {xs : List ByteArray} {x : ByteArray} (h : x ∈ xs) : ∃ f : Nat, find (xs.map strOf) (strOf x) = (f : Int) ∧ f < xs.length ∧ xs.getD f ByteArray.empty = x := by
  cases e : pos (xs.map strOf) (strOf x) with
  | none => exact absurd (List.mem_map_of_mem h) ((pos_none _ _).1 e)
  | some f =>
    obtain ⟨h1, h2, _⟩ := pos_some _ _ _ e
    rw [List.length_map] at h2
    refine ⟨f, by unfold find; rw [e], h2, ?_⟩
    rw [strOf_getD h2] at h1
    exact strOf_inj (Option.some.inj h1)
set_option maxHeartbeats 8000000 in
set_option maxRecDepth 100000 in
theorem trieTurned_walk {W : World} {A : Option Addr} {n cp : Nat} {ws : List ByteArray} (hr : Kd.C Kd.string W A n ws) (s : ByteArray) (hs : s.size ≤ 140737488351232) :
    Calls Try.prog 5 #[.slice A n cp, .string s] W fun e w' => e = .returned (.bool true) ∧ Below W.heap.size W w' := by
  have HR := Aside0.mk hr
  have HS := Aside0.mk hs
  have HB := Aside0.mk (Below.refl W.heap.size W)
  clear hr hs
  go_enter Try.func5, Try.ntmps5
  go_wp2_with (first
    | (go_at_call 9; (with_reducible refine (awake_calls _).mono ?_); rintro e w_ ⟨rfl, hb⟩; replace HB := sb HB hb; clear hb)
    | (go_at_call 10; (with_reducible refine (few_calls (Kd.C_below HR.out (bl HB.out))).mono ?_); rintro e w_ ⟨v2, rfl, hR2, hb⟩; obtain ⟨xs, hxs⟩ : ∃ xs, xs = fewV ws := ⟨_, rfl⟩; rw [← hxs] at hR2; obtain ⟨A2, c2, rfl⟩ := Kd.R_slice hR2; replace HB := sb HB hb; have HX := Aside0.mk (And.intro (Kd.R_reads' hR2).2.2 (And.intro (show xs.length ≤ 20 by rw [hxs]; exact fewV_len ws) (show ∀ x ∈ xs, x.size ≤ 6 by rw [hxs]; exact fun x hx => fewV_size hx))); have hwl : wrap64 ((xs.length : Int) - 1) = (xs.length : Int) - 1 := (have h_ := HX.out.2.1; w64s (by omega) (by omega)); clear hb hR2 hxs))
  go_loopw [7, 8] (fun v7 v8 wr => ∃ r : Nat, v8 = .int .i64 ((r : Int) - 1) ∧ Aside0 (r ≤ xs.length ∧ Kd.R Kd.string 9 wr w_.heap.size (fun _ => True) v7 (xs.reverse.take (xs.length - r)) ∧ Below w_.heap.size w_ wr)) (fun _ v8 _ => (intOf v8 + 1).toNat)
  case atStart => exact ⟨xs.length, congrArg _ hwl, ⟨Nat.le_refl _, by rw [Nat.sub_self, List.take_zero]; exact Kd.R_nil _ _ _ _ _, Below.refl _ _⟩⟩
  case round =>
    obtain ⟨r, rfl, HI⟩ := hrel
    clear hwl
    rcases r with _ | t
    · rw [show (((0 : Nat) : Int) - 1) = -1 by omega]
      obtain ⟨back, hback⟩ : ∃ back, back = xs.reverse := ⟨_, rfl⟩
      have hR := HI.out.2.1
      rw [show xs.reverse.take (xs.length - 0) = back by rw [Nat.sub_zero, hback]; exact List.take_of_length_le (by simp)] at hR
      obtain ⟨A7, c7, rfl⟩ := Kd.R_slice hR
      have hbl : back.length = xs.length := by rw [hback, List.length_reverse]
      have HX2 := Aside0.mk (And.intro (Kd.C_below HX.out.1 HI.out.2.2) HX.out.2)
      have HX7 : Aside0 (Kd.C Kd.string wr A7 back.length back ∧ back.length ≤ 20 ∧ ∀ x ∈ back, x.size ≤ 6) := ⟨(Kd.R_reads' hR).2.2, by rw [hbl]; exact HX.out.2.1, fun x hx => HX.out.2.2 x (by rw [hback] at hx; exact List.mem_reverse.1 hx)⟩
      have HB1 := Aside0.mk (below_step (bl HB.out) HI.out.2.2)
      have HBK := Aside0.mk (And.intro hback hbl)
      clear HI hR hback HB hbl HX
      have HB := Aside0.mk (Below.refl wr.heap.size wr)
      go_wp2_with (first
        | (go_at_call 11; (with_reducible refine (build_calls HX2.out.1 (Nat.le_trans HX2.out.2.1 (by decide)) (fun x hx => Nat.le_trans (HX2.out.2.2 x hx) (by decide))).mono ?_); rintro e w3 ⟨gt, rfl, h1, h2, hT, hb⟩; replace HB := sb HB hb; have HM : Aside0 (Made gt A2 xs w3) := ⟨⟨Kd.C_below HX2.out.1 hb, ⟨_, hT⟩, HX2.out.2.1, HX2.out.2.2⟩⟩; replace HX7 := Aside0.mk (And.intro (Kd.C_below HX7.out.1 hb) HX7.out.2); clear hb hT h1 h2 HX2)
        | (go_at_call 11; (with_reducible refine (build_calls HX7.out.1 (Nat.le_trans HX7.out.2.1 (by decide)) (fun x hx => Nat.le_trans (HX7.out.2.2 x hx) (by decide))).mono ?_); rintro e w4 ⟨gt7, rfl, h1, h2, hT, hb⟩; replace HB := sb HB hb; replace HM := Aside0.mk (HM.out.below hb); have HM7 : Aside0 (Made gt7 A7 back w4) := ⟨⟨Kd.C_below HX7.out.1 hb, ⟨_, hT⟩, HX7.out.2.1, HX7.out.2.2⟩⟩; clear hb hT h1 h2 HX7))
      go_loopw [11] (fun v11 w5 => ∃ i : Nat, v11 = .int .i64 (i : Int) ∧ Aside0 (i ≤ xs.length ∧ Made gt A2 xs w5 ∧ Made gt7 A7 back w5 ∧ Below W.heap.size W w5)) (fun v11 _ => xs.length - (intOf v11).toNat)
      case atStart => exact ⟨0, rfl, ⟨Nat.zero_le _, HM.out, HM7.out, below_step HB1.out (bl HB.out)⟩⟩
      case round =>
        obtain ⟨i, rfl, HI⟩ := hrel
        clear HM HM7 HB HB1
        obtain ⟨hi, hm, hm7, hb0⟩ := HI.out
        have HM := Aside0.mk hm
        have HM7 := Aside0.mk hm7
        have HB0 := Aside0.mk hb0
        have HB := Aside0.mk (Below.refl wr.heap.size wr)
        by_cases hlt : i < xs.length
        · have hd : decide ((i : Int) < (xs.length : Int)) = true := by simp; omega
          have hi1 : (i : Int) < (xs.length : Int) := by omega
          have hq1 := eq_true hlt
          obtain ⟨ad, rfl, hS⟩ := at_S hm.c i hlt
          obtain ⟨ad7, rfl, _⟩ := at_S hm7.c 0 (by rw [HBK.out.2]; omega)
          obtain ⟨x, hx⟩ : ∃ x, x = xs.getD i ByteArray.empty := ⟨_, rfl⟩
          have hmem : x ∈ xs := by rw [hx, List.getD_eq_getElem?_getD, List.getElem?_eq_getElem hlt]; exact List.getElem_mem _
          have hmem7 : x ∈ back := by rw [HBK.out.1]; exact List.mem_reverse.2 hmem
          obtain ⟨f, hf1, hf2, hf3⟩ := find_here hmem
          obtain ⟨g, hg1, hg2, hg3⟩ := find_here hmem7
          rw [← hx] at hS
          have HSS : Aside0 (∀ W', Made gt (some ad) xs W' → Made gt7 (some ad7) back W' → W'.cell? (ad.add i) = some (.string x) ∧ W'.cell? (ad.add f) = some (.string x) ∧ W'.cell? (ad7.add g) = some (.string x)) := ⟨fun W' h h7 => by
            obtain ⟨ad', ea, h2⟩ := at_S h.c i hlt
            cases ea
            obtain ⟨ad', ea, h3⟩ := at_S h.c f hf2
            cases ea
            obtain ⟨ad', ea, h4⟩ := at_S h7.c g hg2
            cases ea
            rw [hf3] at h3
            rw [hg3] at h4
            exact ⟨by rw [hx]; exact h2, h3, h4⟩⟩
          have hfv := findV_nodes (xs.map strOf) (strOf x)
          rw [hf1, if_neg (by omega)] at hfv
          have hgv := findV_nodes (back.map strOf) (strOf x)
          rw [hg1, if_neg (by omega)] at hgv
          have HFV := Aside0.mk hfv
          have HGV := Aside0.mk hgv
          have HX6 := Aside0.mk (show x.size ≤ 140737488351232 from Nat.le_trans (hm.s x hmem) (by decide))
          have HLT := Aside0.mk hlt
          have hii : wrap64 ((i : Int) + 1) = ((i + 1 : Nat) : Int) := by have h_ := hm.l; rw [w64s (by omega) (by omega)]; omega
          obtain ⟨z, hz⟩ : ∃ z : Int, z = ((i + 1 : Nat) : Int) := ⟨_, rfl⟩
          rw [← hz] at hii
          have hii2 : IntKind.i64.wrap ((i : Int) + 1) = z := (i64_w _).trans hii
          have HZ := Aside0.mk hz
          have f0 : decide ((f : Int) < 0) = false := by simp
          have f1 : decide ((xs.length : Int) ≤ (f : Int)) = false := by simp; omega
          have f2 : (f : Int) < (xs.length : Int) := by omega
          have f3 : decide (xs.length ≤ f) = false := by simp; omega
          have f4 := eq_false (show ¬ xs.length ≤ f by omega)
          have f5 := eq_false (show ¬ (xs.length : Int) ≤ (f : Int) by omega)
          have g0 : decide ((g : Int) < 0) = false := by simp
          have g1 : decide ((xs.length : Int) ≤ (g : Int)) = false := by simp; rw [HBK.out.2] at hg2; omega
          have g2 : (g : Int) < (back.length : Int) := by omega
          have g3 : decide (xs.length ≤ g) = false := by simp; rw [HBK.out.2] at hg2; omega
          have g4 := eq_false (show ¬ xs.length ≤ g by rw [HBK.out.2] at hg2; omega)
          have g5 := eq_false (show ¬ (xs.length : Int) ≤ (g : Int) by rw [HBK.out.2] at hg2; omega)
          clear hlt hx hmem hmem7 hz HI hm hm7 hi hb0 hfv hgv hf1 hf2 hf3 hg1 hg2 hg3
          go_wp2_with (first
            | (go_at_call 14; obtain ⟨base, hT⟩ := HM.out.t; (with_reducible refine (find_calls hT x HX6.out).mono ?_); rintro e w7 ⟨rfl, hb⟩; rw [HFV.out]; replace HB := sb HB hb; replace HM := Aside0.mk (HM.out.below hb); replace HM7 := Aside0.mk (HM7.out.below hb); clear hb hT hS; obtain ⟨hS, hS2, hS3⟩ := HSS.out _ HM.out HM7.out)
            | (go_at_call 14; obtain ⟨base, hT⟩ := HM7.out.t; (with_reducible refine (find_calls hT x HX6.out).mono ?_); rintro e w8 ⟨rfl, hb⟩; rw [HGV.out]; replace HB := sb HB hb; replace HM := Aside0.mk (HM.out.below hb); replace HM7 := Aside0.mk (HM7.out.below hb); clear hb hT hS hS2 hS3; obtain ⟨hS, hS2, hS3⟩ := HSS.out _ HM.out HM7.out))
          go_quiet (fail)
          go_wp2
          go_roundw
          case rel => exact ⟨i + 1, congrArg _ HZ.out, ⟨HLT.out, HM.out.drew nq, HM7.out.drew nq, below_step HB0.out (pw_below_drewN HB.out nq)⟩⟩
          case measure => have h1_ := HLT.out; have h2_ := HZ.out; simp [intOf]; omega
        · have hd : decide ((i : Int) < (xs.length : Int)) = false := by simp; omega
          have hq1 := eq_false hlt
          have hrev : back.map strOf = (xs.map strOf).reverse := by rw [HBK.out.1, List.map_reverse]
          have hnl : (nodes (back.map strOf)).length = (nodes (xs.map strOf)).length := by rw [hrev, nodes_turned]
          have HNL := Aside0.mk hnl
          obtain ⟨p1, hp1⟩ : ∃ p, findV (nodes (xs.map strOf)) ((nodes (xs.map strOf)).map (find (xs.map strOf))) (strOf s) = p := ⟨_, rfl⟩
          obtain ⟨p2, hp2⟩ : ∃ p, findV (nodes (back.map strOf)) ((nodes (back.map strOf)).map (find (back.map strOf))) (strOf s) = p := ⟨_, rfl⟩
          have hpp : p1.2 = p2.2 := by
            rw [← hp1, ← hp2, findV_nodes, findV_nodes]
            have ht := find_turned (xs.map strOf) (strOf s)
            rw [← hrev] at ht
            by_cases h1 : find (xs.map strOf) (strOf s) = -1
            · rw [if_pos h1, if_pos (ht.2 h1)]
            · rw [if_neg h1, if_neg (fun h => h1 (ht.1 h))]
          have HP1 := Aside0.mk hp1
          have HP2 := Aside0.mk hp2
          obtain ⟨bb, hbb⟩ : ∃ b, b = p2.2 := ⟨_, rfl⟩
          rw [← hbb] at hpp
          have HP3 := Aside0.mk (And.intro hpp hbb)
          clear hlt HI hm hm7 hi hb0 hnl hp1 hp2 hpp hbb hrev
          go_wp2_with (first
            | (go_at_call 14; obtain ⟨base, hT⟩ := HM.out.t; (with_reducible refine (find_calls hT s HS.out).mono ?_); rintro e w7 ⟨rfl, hb⟩; rw [HP1.out, HP3.out.1]; replace HB := sb HB hb; replace HM := Aside0.mk (HM.out.below hb); replace HM7 := Aside0.mk (HM7.out.below hb); clear hb hT)
            | (go_at_call 14; obtain ⟨base, hT⟩ := HM7.out.t; (with_reducible refine (find_calls hT s HS.out).mono ?_); rintro e w8 ⟨rfl, hb⟩; rw [HP2.out, ← HP3.out.2]; replace HB := sb HB hb; replace HM := Aside0.mk (HM.out.below hb); replace HM7 := Aside0.mk (HM7.out.below hb); clear hb hT)
            | (go_at_call 12; obtain ⟨base, hT⟩ := HM.out.t; (with_reducible refine (len_calls hT).mono ?_); rintro e w9 ⟨rfl, ⟨q4, rfl⟩⟩; replace HM7 := Aside0.mk (HM7.out.drew q4); clear hT)
            | (go_at_call 12; obtain ⟨base, hT⟩ := HM7.out.t; (with_reducible refine (len_calls hT).mono ?_); rintro e w9 ⟨rfl, ⟨q5, rfl⟩⟩; rw [HNL.out]; clear hT))
          all_goals exact bodyPost_ret (v := .bool true) (by simp [results, Try.f5, go_sem]) rfl ⟨rfl, below_step HB0.out (bl HB.out)⟩
    · rw [show (((t + 1 : Nat) : Int) - 1) = (t : Int) by omega]
      have htl : t < xs.length := HI.out.1
      have hd : decide (0 ≤ (t : Int)) = true := by simp
      have hq1 := eq_true (show (t : Int) < (xs.length : Int) by omega)
      have hq0 := eq_true (show (0 : Int) ≤ (t : Int) by omega)
      obtain ⟨ad, rfl, hS⟩ := at_S (Kd.C_below HX.out.1 HI.out.2.2) t htl
      obtain ⟨y, hy⟩ : ∃ y, y = xs.getD t ByteArray.empty := ⟨_, rfl⟩
      rw [← hy] at hS
      obtain ⟨ys, hys⟩ : ∃ ys, ys = xs.reverse.take (xs.length - (t + 1)) := ⟨_, rfl⟩
      have htk : xs.reverse.take (xs.length - t) = ys ++ [y] := by
        rw [hys, show xs.length - t = (xs.length - (t + 1)) + 1 by omega, List.take_add_one, List.getElem?_reverse (by omega), show xs.length - 1 - (xs.length - (t + 1)) = t by omega, List.getElem?_eq_getElem htl, hy, List.getD_eq_getElem?_getD, List.getElem?_eq_getElem htl]; rfl
      have hHI := HI.out
      rw [← hys] at hHI
      have HTK := Aside0.mk htk
      have HYL : Aside0 ((ys.length + 1) * 16 ≤ 140737488355328 ∧ w_.heap.size ≤ wr.heap.size) := ⟨by have h_ := HX.out.2.1; rw [hys, List.length_take]; omega, hHI.2.2.size⟩
      have hw : wrap64 ((t : Int) - 1) = (t : Int) - 1 := by have h_ := HX.out.2.1; rw [w64s (by omega) (by omega)]
      obtain ⟨A3, c3, rfl⟩ := Kd.R_slice hHI.2.1
      have HI2 := Aside0.mk hHI
      have HTL := Aside0.mk htl
      clear hHI hys htk hy htl HI
      go_wp2_with (at_builtin; refine Kd.R_append Kd.string (w0 := w_) w_.heap.size rfl (.tmp 30) (.tmp 35) 22 9 (.string ⟨#[]⟩) 16 rfl und22 info9 rfl (by decide) (by omega) _ ys y [.string y] (fun _ => True) (fun _ => False) rfl rfl (kS_M _ _ _ y) (fun _ hk => hk.elim) (fun _ _ => trivial) HI2.out.2.1 HI2.out.2.2 HYL.out.2 HYL.out.1 ?_; intro v1 w1 hR1 hB1 hG1 _; rw [← HTK.out] at hR1; replace hR1 := Aside0.mk (And.intro hR1 hB1); clear hB1 hG1)
      go_roundw
      case rel => exact ⟨t, congrArg _ hw, ⟨Nat.le_of_lt HTL.out, hR1.out.1, hR1.out.2⟩⟩
      case measure => have h_ := hw; simp [intOf, h_]
end Go.Proofs.Ytgdipibmaaehcaa.Tr
