/- TrieFinds walked. Its conditions: a text of less than 2^47 bytes; the words as they stand. -/
import Derived.Test.YtgdipibmaaehcaaTrA
namespace Go.Proofs.Ytgdipibmaaehcaa.Tr
open Go Go.RowKit Go.Proofs.Ytgdipibmaaehcaa Go.Proofs.Ytgdipibmaaehcaa.Sq Go.Proofs.YtgdipibmaaehcaaW.PrintWords Go.Proofs.YtgdipibmaaehcaaW.PrintLast Go.Proofs.YtgdipibmaaehcaaW.PrintMore
set_option linter.unusedVariables false
set_option linter.unusedSimpArgs false
theorem fewV_len (ws : List ByteArray) : (fewV ws).length ≤ 20 := by unfold fewV; rw [List.length_map, List.length_take]; omega
theorem fewV_size {ws : List ByteArray} {s : ByteArray} (h : s ∈ fewV ws) : s.size ≤ 6 := by
  unfold fewV at h
  obtain ⟨x, _, rfl⟩ := List.mem_map.1 h
  unfold cut6
  by_cases h6 : 6 < x.size
  · rw [if_pos h6, ByteArray.size_extract]; omega
  · rw [if_neg h6]; omega
/-- What the laws have made: the few, their trie. -/
structure Made (gt : Nat) (A : Option Addr) (xs : List ByteArray) (W : World) : Prop where
  c : Kd.C Kd.string W A xs.length xs
  t : ∃ base, TrieOf gt base (xs.map strOf) W
  l : xs.length ≤ 20
  s : ∀ x ∈ xs, x.size ≤ 6
theorem Made.below {gt : Nat} {A : Option Addr} {xs : List ByteArray} {W W' : World} (h : Made gt A xs W) (hb : Below W.heap.size W W') : Made gt A xs W' :=
  ⟨Kd.C_below h.c hb, by obtain ⟨b, h⟩ := h.t; exact ⟨b, h.below hb⟩, h.l, h.s⟩
theorem Made.drew {gt : Nat} {A : Option Addr} {xs : List ByteArray} {W : World} (h : Made gt A xs W) (q : Nat) : Made gt A xs (W.drewN q) := h.below (pw_below_drewN (Below.refl _ _) q)
theorem cut_rest (cut : Int) (m : Nat) (hm : m ≤ 6) : ∃ k : Nat, k ≤ m ∧ (wrap64 (wrap64 (cut.tmod ((m : Int) + 1) + (m : Int)) + 1)).tmod ((m : Int) + 1) = (k : Int) := by
  have h1 := Int.tmod_lt_of_pos cut (b := (m : Int) + 1) (by omega)
  have h2 := Int.lt_tmod_of_pos cut (b := (m : Int) + 1) (by omega)
  rw [w64s (x := cut.tmod ((m : Int) + 1) + (m : Int)) (by omega) (by omega), w64s (by omega) (by omega)]
  have h3 := Int.tmod_nonneg (a := cut.tmod ((m : Int) + 1) + (m : Int) + 1) ((m : Int) + 1) (by omega)
  have h4 := Int.tmod_lt_of_pos (cut.tmod ((m : Int) + 1) + (m : Int) + 1) (b := (m : Int) + 1) (by omega)
  exact ⟨((cut.tmod ((m : Int) + 1) + (m : Int) + 1).tmod ((m : Int) + 1)).toNat, by omega, by omega⟩
set_option maxHeartbeats 8000000 in
set_option maxRecDepth 100000 in
theorem trieFinds_walk {W : World} {A : Option Addr} {n cp : Nat} {ws : List ByteArray} (hr : Kd.C Kd.string W A n ws) (s : ByteArray) (hs : s.size ≤ 140737488351232) (cut : Int) (hc0 : -9223372036854775808 ≤ cut) (hc1 : cut ≤ 9223372036854775807) :
    Calls Try.prog 3 #[.slice A n cp, .string s, .int .i64 cut] W fun e w' => e = .returned (.bool true) ∧ Below W.heap.size W w' := by
  have HR := Aside0.mk hr
  have HS := Aside0.mk hs
  have HC := Aside0.mk (And.intro hc0 hc1)
  have HB := Aside0.mk (Below.refl W.heap.size W)
  clear hr hs hc0 hc1
  go_enter Try.func3, Try.ntmps3
  go_wp2_with (first
    | (go_at_call 9; (with_reducible refine (awake_calls _).mono ?_); rintro e w_ ⟨rfl, hb⟩; replace HB := sb HB hb; clear hb)
    | (go_at_call 10; (with_reducible refine (few_calls (Kd.C_below HR.out (bl HB.out))).mono ?_); rintro e w_ ⟨v2, rfl, hR2, hb⟩; obtain ⟨xs, hxs⟩ : ∃ xs, xs = fewV ws := ⟨_, rfl⟩; rw [← hxs] at hR2; obtain ⟨A2, c2, rfl⟩ := Kd.R_slice hR2; replace HB := sb HB hb; have HX := Aside0.mk (And.intro (Kd.R_reads' hR2).2.2 (And.intro (show xs.length ≤ 20 by rw [hxs]; exact fewV_len ws) (show ∀ x ∈ xs, x.size ≤ 6 by rw [hxs]; exact fun x hx => fewV_size hx))); clear hb hR2 hxs)
    | (go_at_call 11; (with_reducible refine (build_calls HX.out.1 (Nat.le_trans HX.out.2.1 (by decide)) (fun x hx => Nat.le_trans (HX.out.2.2 x hx) (by decide))).mono ?_); rintro e w_ ⟨gt, rfl, h1, h2, hT, hb⟩; replace HB := sb HB hb; have HM : Aside0 (Made gt A2 xs w_) := ⟨⟨Kd.C_below HX.out.1 hb, ⟨_, hT⟩, HX.out.2.1, HX.out.2.2⟩⟩; clear hb hT h1 h2 HX)
    | (go_at_call 12; obtain ⟨base, hT⟩ := HM.out.t; (with_reducible refine (len_calls hT).mono ?_); rintro e w_ ⟨rfl, ⟨q4, rfl⟩⟩; replace HM := Aside0.mk (HM.out.drew q4); clear hT)
    | (go_at_call 13; (with_reducible refine (nodes_calls HM.out.c (Nat.le_trans HM.out.l (by decide)) (fun x hx => Nat.le_trans (HM.out.s x hx) (by decide))).mono ?_); rintro e w_ ⟨v3, out, rfl, hR3, hx3, hb⟩; obtain ⟨A3, c3, rfl⟩ := Kd.R_slice hR3; replace HB := sb HB hb; have hol : out.length = (nodes (xs.map strOf)).length := by rw [← hx3, List.length_map]
       replace HM := Aside0.mk (HM.out.below hb); rw [← hol]; clear hR3 hx3 hb hol))
  go_loopw [10] (fun v10 wr => ∃ i : Nat, v10 = .int .i64 (i : Int) ∧ Aside0 (i ≤ xs.length ∧ Made gt A2 xs wr ∧ Below W.heap.size W wr)) (fun v10 _ => xs.length - (intOf v10).toNat)
  case atStart => exact ⟨0, rfl, ⟨Nat.zero_le _, HM.out, bl HB.out⟩⟩
  case round =>
    obtain ⟨i, rfl, HI⟩ := hrel
    have HN := Aside0.mk (And.intro HM.out.l HM.out.s)
    clear HM HB
    have HM := Aside0.mk HI.out.2.1
    have HB0 := HI.out.2.2
    have HB := Aside0.mk (Below.refl wr.heap.size wr)
    by_cases hlt : i < xs.length
    · have hd : decide ((i : Int) < (xs.length : Int)) = true := by simp; omega
      have hq1 := eq_true hlt
      obtain ⟨ad, rfl, hS⟩ := at_S HM.out.c i hlt
      obtain ⟨x, hx⟩ : ∃ x, x = xs.getD i ByteArray.empty := ⟨_, rfl⟩
      have HSS : Aside0 (∀ W', Made gt (some ad) xs W' → W'.cell? (ad.add i) = some (.string x)) := ⟨fun W' h => by
        obtain ⟨ad', ea, h2⟩ := at_S h.c i hlt
        cases ea
        rw [hx]; exact h2⟩
      rw [← hx] at hS
      have hmem : x ∈ xs := by rw [hx, List.getD_eq_getElem?_getD, List.getElem?_eq_getElem hlt]; exact List.getElem_mem _
      have hx6 : x.size ≤ 6 := HN.out.2 x hmem
      obtain ⟨F, hF⟩ : ∃ F, F = find (xs.map strOf) (strOf x) := ⟨_, rfl⟩
      have hFn : 0 ≤ F := by
        rcases find_nonneg (xs.map strOf) (strOf x) with h | h
        · exact absurd (List.mem_map_of_mem hmem) (find_neg.1 h)
        · rw [hF]; exact h
      have hfv := findV_nodes (xs.map strOf) (strOf x)
      rw [← hF, if_neg (by omega)] at hfv
      have HFV := Aside0.mk hfv
      have HF := Aside0.mk hF
      have HX6 := Aside0.mk (show x.size ≤ 140737488351232 by omega)
      have HLT := Aside0.mk hlt
      have hii : wrap64 ((i : Int) + 1) = ((i + 1 : Nat) : Int) := by have h_ := HN.out.1; rw [w64s (by omega) (by omega)]; omega
      obtain ⟨z, hz⟩ : ∃ z : Int, z = ((i + 1 : Nat) : Int) := ⟨_, rfl⟩
      rw [← hz] at hii
      have hii2 : IntKind.i64.wrap ((i : Int) + 1) = z := (i64_w _).trans hii
      have HZ := Aside0.mk hz
      clear hlt hx hmem hF hFn hfv hz HI
      go_wp2_with (first
        | (go_at_call 14; obtain ⟨base, hT⟩ := HM.out.t; (with_reducible refine (find_calls hT x HX6.out).mono ?_); rintro e w_ ⟨rfl, hb⟩; rw [HFV.out]; replace HB := sb HB hb; replace HM := Aside0.mk (HM.out.below hb); clear hb hT hS; have hS := HSS.out _ HM.out))
      have hi1 : (i : Int) < (xs.length : Int) := by have := HLT.out; omega
      have hl1 : wrap64 ((x.size : Int) + 1) = (x.size : Int) + 1 := by rw [w64s (by omega) (by omega)]
      obtain ⟨k, hk1, hk2⟩ := cut_rest cut x.size hx6
      have HK2 := Aside0.mk hk2
      have hk3 : (k : Int) ≤ (x.size : Int) := by omega
      have hk4 := eq_true hk3
      have HY1 : Aside0 ((x.extract 0 k).size ≤ 140737488351232) := ⟨by rw [ByteArray.size_extract]; omega⟩
      have HY2 : Aside0 ((x ++ ⟨#[109]⟩ : ByteArray).size ≤ 140737488351232) := ⟨by rw [ByteArray.size_append]; have : (⟨#[109]⟩ : ByteArray).size = 1 := rfl; omega⟩
      clear hk1 hk2
      go_quiet (fail)
      rw [HK2.out]
      have HMd : ∀ q, Aside0 (Made gt (some ad) xs (w_.drewN q)) := fun q => ⟨HM.out.drew q⟩
      have HLB := Aside0.mk (Nat.le_trans HM.out.l (by decide : 20 ≤ 1000))
      have HLB2 := Aside0.mk (Nat.le_trans HM.out.l (by decide : 20 ≤ 140737488351232))
      clear HM
      go_wp2_with (first
        | (go_at_call 15; (with_reducible refine (rfind_calls (HMd _).out.c HLB2.out x).mono ?_); rintro e w3 ⟨rfl, ⟨q3, rfl⟩⟩; rw [← HF.out])
        | (go_at_call 16; obtain ⟨base, hT⟩ := (HMd (nq + q3)).out.t; (with_reducible refine (finds_calls (HMd _).out.c HLB.out hT (x.extract 0 k) HY1.out).mono ?_); rintro e w4 ⟨rfl, hb⟩; replace HB := sb HB hb; have HM := Aside0.mk ((HMd _).out.below hb); clear hb hT hS; have hS := HSS.out _ HM.out)
        | (go_at_call 16; obtain ⟨base, hT⟩ := HM.out.t; (with_reducible refine (finds_calls HM.out.c HLB.out hT (x ++ ⟨#[109]⟩) HY2.out).mono ?_); rintro e w5 ⟨rfl, hb⟩; replace HB := sb HB hb; replace HM := Aside0.mk (HM.out.below hb); clear hb hT hS; have hS := HSS.out _ HM.out))
      go_roundw
      case rel => exact ⟨i + 1, congrArg _ HZ.out, ⟨HLT.out, HM.out, below_step HB0 HB.out⟩⟩
      case measure => have h1_ := HLT.out; have h2_ := HZ.out; simp [intOf]; omega
    · have hd : decide ((i : Int) < (xs.length : Int)) = false := by simp; omega
      have hq1 := eq_false hlt
      have HLB := Aside0.mk (Nat.le_trans HM.out.l (by decide : 20 ≤ 1000))
      clear hlt HI
      have HB2 := Aside0.mk HB0
      clear HB0
      go_wp2_with (first
        | (go_at_call 16; obtain ⟨base, hT⟩ := HM.out.t; (with_reducible refine (finds_calls HM.out.c HLB.out hT s HS.out).mono ?_); rintro e w4 ⟨rfl, hb⟩; replace HB := sb HB hb; replace HM := Aside0.mk (HM.out.below hb); clear hb hT)
        | (go_at_call 16; obtain ⟨base, hT⟩ := HM.out.t; (with_reducible refine (finds_calls HM.out.c HLB.out hT ⟨#[]⟩ (by decide)).mono ?_); rintro e w5 ⟨rfl, hb⟩; replace HB := sb HB hb; replace HM := Aside0.mk (HM.out.below hb); clear hb hT))
      exact bodyPost_ret (v := .bool true) (by simp [results, Try.f3, go_sem]) rfl ⟨rfl, below_step HB2.out (bl HB.out)⟩
end Go.Proofs.Ytgdipibmaaehcaa.Tr
