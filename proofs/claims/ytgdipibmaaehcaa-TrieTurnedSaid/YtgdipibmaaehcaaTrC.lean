/- TrieGoes walked. Its conditions: a text of less than 2^47 bytes; the words as they stand. -/
import Derived.Test.YtgdipibmaaehcaaTrB
namespace Go.Proofs.Ytgdipibmaaehcaa.Tr
open Go Go.RowKit Go.Proofs.Ytgdipibmaaehcaa Go.Proofs.Ytgdipibmaaehcaa.Sq Go.Proofs.YtgdipibmaaehcaaW.PrintWords Go.Proofs.YtgdipibmaaehcaaW.PrintLast Go.Proofs.YtgdipibmaaehcaaW.PrintMore
set_option linter.unusedVariables false
set_option linter.unusedSimpArgs false
theorem out_size {xs out : List ByteArray} (h : out.map strOf = nodes (xs.map strOf)) (hs : ∀ x ∈ xs, x.size ≤ 6) : ∀ y ∈ out, y.size ≤ 140737488351232 := by
  intro y hy
  have hm : strOf y ∈ nodes (xs.map strOf) := by rw [← h]; exact List.mem_map_of_mem hy
  rw [← strOf_len]
  rcases (nodes_mem _ _).1 hm with e | ⟨w, hw, k, hk, e⟩
  · rw [e]; simp
  · obtain ⟨x, hx, rfl⟩ := List.mem_map.1 hw
    have h1 := hs x hx
    rw [e, List.length_take, strOf_len]; omega
set_option maxHeartbeats 8000000 in
set_option maxRecDepth 100000 in
theorem trieGoes_walk {W : World} {A : Option Addr} {n cp : Nat} {ws : List ByteArray} (hr : Kd.C Kd.string W A n ws) (s0 : ByteArray) (hs0 : s0.size ≤ 140737488351232) :
    Calls Try.prog 4 #[.slice A n cp, .string s0] W fun e w' => e = .returned (.bool true) ∧ Below W.heap.size W w' := by
  have HR := Aside0.mk hr
  have HB := Aside0.mk (Below.refl W.heap.size W)
  obtain ⟨s, hs, hcs⟩ : ∃ s : ByteArray, s.size ≤ 140737488351232 ∧ ((8 < s0.size ∧ s0.extract 0 8 = s) ∨ (¬ 8 < s0.size ∧ s0 = s)) := by
    by_cases h : 8 < s0.size
    · exact ⟨_, by rw [ByteArray.size_extract]; omega, .inl ⟨h, rfl⟩⟩
    · exact ⟨_, hs0, .inr ⟨h, rfl⟩⟩
  have HS := Aside0.mk hs
  clear hr hs hs0
  rcases hcs with ⟨h8, he⟩ | ⟨h8, rfl⟩
  · have h8d : decide ((8 : Int) < (s0.size : Int)) = true := by simp; omega
    have h8q := eq_true (show (8 : Int) ≤ (s0.size : Int) by omega)
    clear h8
    go_enter Try.func4, Try.ntmps4
    go_wp2_with (first
      | (go_at_call 9; (with_reducible refine (awake_calls _).mono ?_); rintro e w_ ⟨rfl, hb⟩; replace HB := sb HB hb; clear hb)
      | (go_at_call 10; (with_reducible refine (few_calls (Kd.C_below HR.out (bl HB.out))).mono ?_); rintro e w_ ⟨v2, rfl, hR2, hb⟩; obtain ⟨xs, hxs⟩ : ∃ xs, xs = fewV ws := ⟨_, rfl⟩; rw [← hxs] at hR2; obtain ⟨A2, c2, rfl⟩ := Kd.R_slice hR2; replace HB := sb HB hb; have HX := Aside0.mk (And.intro (Kd.R_reads' hR2).2.2 (And.intro (show xs.length ≤ 20 by rw [hxs]; exact fewV_len ws) (show ∀ x ∈ xs, x.size ≤ 6 by rw [hxs]; exact fun x hx => fewV_size hx))); clear hb hR2 hxs)
      | (go_at_call 11; (with_reducible refine (build_calls HX.out.1 (Nat.le_trans HX.out.2.1 (by decide)) (fun x hx => Nat.le_trans (HX.out.2.2 x hx) (by decide))).mono ?_); rintro e w_ ⟨gt, rfl, h1, h2, hT, hb⟩; replace HB := sb HB hb; have HM : Aside0 (Made gt A2 xs w_) := ⟨⟨Kd.C_below HX.out.1 hb, ⟨_, hT⟩, HX.out.2.1, HX.out.2.2⟩⟩; clear hb hT h1 h2 HX)
      | (go_at_call 13; (with_reducible refine (nodes_calls HM.out.c (Nat.le_trans HM.out.l (by decide)) (fun x hx => Nat.le_trans (HM.out.s x hx) (by decide))).mono ?_); rintro e w_ ⟨v3, out, rfl, hR3, hx3, hb⟩; obtain ⟨A3, c3, rfl⟩ := Kd.R_slice hR3; replace HB := sb HB hb; replace HM := Aside0.mk (HM.out.below hb); have HO := Aside0.mk (And.intro (Kd.R_reads' hR3).2.2 (out_size hx3 HM.out.s)); have HOL := Aside0.mk (show out.length ≤ 100000 by rw [← List.length_map (f := strOf), hx3]; obtain ⟨b_, h_⟩ := HM.out.t; exact h_.small); clear hR3 hx3 hb))
    go_loopw [9] (fun v9 wr => ∃ i : Nat, v9 = .int .i64 (i : Int) ∧ Aside0 (i ≤ out.length ∧ Made gt A2 xs wr ∧ Kd.C Kd.string wr A3 out.length out ∧ Below W.heap.size W wr)) (fun v9 _ => out.length - (intOf v9).toNat)
    case atStart => exact ⟨0, rfl, ⟨Nat.zero_le _, HM.out, HO.out.1, bl HB.out⟩⟩
    case round =>
      obtain ⟨i, rfl, HI⟩ := hrel
      have HLB := Aside0.mk (Nat.le_trans HM.out.l (by decide : 20 ≤ 1000))
      have HSZ := Aside0.mk (And.intro HM.out.s HO.out.2)
      clear HM HB
      have HM := Aside0.mk HI.out.2.1
      have hO2 := HI.out.2.2.1
      have HB0 := Aside0.mk HI.out.2.2.2
      have HB := Aside0.mk (Below.refl wr.heap.size wr)
      by_cases hlt : i < out.length
      · have hd : decide ((i : Int) < (out.length : Int)) = true := by simp; omega
        have hq1 := eq_true hlt
        obtain ⟨ad, rfl, hS⟩ := at_S hO2 i hlt
        obtain ⟨x, hx⟩ : ∃ x, x = out.getD i ByteArray.empty := ⟨_, rfl⟩
        rw [← hx] at hS
        have hmem : x ∈ out := by rw [hx, List.getD_eq_getElem?_getD, List.getElem?_eq_getElem hlt]; exact List.getElem_mem _
        have HX6 := Aside0.mk (HSZ.out.2 x hmem)
        have HLT := Aside0.mk hlt
        have hii : wrap64 ((i : Int) + 1) = ((i + 1 : Nat) : Int) := by have h_ := HOL.out; rw [w64s (by omega) (by omega)]; omega
        obtain ⟨z, hz⟩ : ∃ z : Int, z = ((i + 1 : Nat) : Int) := ⟨_, rfl⟩
        rw [← hz] at hii
        have hii2 : IntKind.i64.wrap ((i : Int) + 1) = z := (i64_w _).trans hii
        have HZ := Aside0.mk hz
        have HO2 := Aside0.mk hO2
        clear hlt hx hmem hz HI hO2
        go_wp2_with (first
          | (go_at_call 17; obtain ⟨base, hT⟩ := HM.out.t; (with_reducible refine (goes_calls HM.out.c HLB.out (fun x hx => Nat.le_trans (HSZ.out.1 x hx) (by decide)) hT x HX6.out).mono ?_); rintro e w5 ⟨rfl, hb⟩; replace HB := sb HB hb; replace HM := Aside0.mk (HM.out.below hb); replace HO2 := Aside0.mk (Kd.C_below HO2.out hb); clear hb hT hS))
        go_roundw
        case rel => exact ⟨i + 1, congrArg _ HZ.out, ⟨HLT.out, HM.out, HO2.out, below_step HB0.out HB.out⟩⟩
        case measure => have h1_ := HLT.out; have h2_ := HZ.out; simp [intOf]; omega
      · have hd : decide ((i : Int) < (out.length : Int)) = false := by simp; omega
        have hq1 := eq_false hlt
        clear hlt HI
        go_wp2_with (first
          | (go_at_call 17; obtain ⟨base, hT⟩ := HM.out.t; (with_reducible refine (goes_calls HM.out.c HLB.out (fun x hx => Nat.le_trans (HSZ.out.1 x hx) (by decide)) hT s HS.out).mono ?_); rintro e w5 ⟨rfl, hb⟩; replace HB := sb HB hb; replace HM := Aside0.mk (HM.out.below hb); clear hb hT))
        exact bodyPost_ret (v := .bool true) (by simp [results, Try.f4, go_sem]) rfl ⟨rfl, below_step HB0.out (bl HB.out)⟩
  · have h8d : decide ((8 : Int) < (s0.size : Int)) = false := by simp; omega
    clear h8
    go_enter Try.func4, Try.ntmps4
    go_wp2_with (first
      | (go_at_call 9; (with_reducible refine (awake_calls _).mono ?_); rintro e w_ ⟨rfl, hb⟩; replace HB := sb HB hb; clear hb)
      | (go_at_call 10; (with_reducible refine (few_calls (Kd.C_below HR.out (bl HB.out))).mono ?_); rintro e w_ ⟨v2, rfl, hR2, hb⟩; obtain ⟨xs, hxs⟩ : ∃ xs, xs = fewV ws := ⟨_, rfl⟩; rw [← hxs] at hR2; obtain ⟨A2, c2, rfl⟩ := Kd.R_slice hR2; replace HB := sb HB hb; have HX := Aside0.mk (And.intro (Kd.R_reads' hR2).2.2 (And.intro (show xs.length ≤ 20 by rw [hxs]; exact fewV_len ws) (show ∀ x ∈ xs, x.size ≤ 6 by rw [hxs]; exact fun x hx => fewV_size hx))); clear hb hR2 hxs)
      | (go_at_call 11; (with_reducible refine (build_calls HX.out.1 (Nat.le_trans HX.out.2.1 (by decide)) (fun x hx => Nat.le_trans (HX.out.2.2 x hx) (by decide))).mono ?_); rintro e w_ ⟨gt, rfl, h1, h2, hT, hb⟩; replace HB := sb HB hb; have HM : Aside0 (Made gt A2 xs w_) := ⟨⟨Kd.C_below HX.out.1 hb, ⟨_, hT⟩, HX.out.2.1, HX.out.2.2⟩⟩; clear hb hT h1 h2 HX)
      | (go_at_call 13; (with_reducible refine (nodes_calls HM.out.c (Nat.le_trans HM.out.l (by decide)) (fun x hx => Nat.le_trans (HM.out.s x hx) (by decide))).mono ?_); rintro e w_ ⟨v3, out, rfl, hR3, hx3, hb⟩; obtain ⟨A3, c3, rfl⟩ := Kd.R_slice hR3; replace HB := sb HB hb; replace HM := Aside0.mk (HM.out.below hb); have HO := Aside0.mk (And.intro (Kd.R_reads' hR3).2.2 (out_size hx3 HM.out.s)); have HOL := Aside0.mk (show out.length ≤ 100000 by rw [← List.length_map (f := strOf), hx3]; obtain ⟨b_, h_⟩ := HM.out.t; exact h_.small); clear hR3 hx3 hb))
    go_loopw [9] (fun v9 wr => ∃ i : Nat, v9 = .int .i64 (i : Int) ∧ Aside0 (i ≤ out.length ∧ Made gt A2 xs wr ∧ Kd.C Kd.string wr A3 out.length out ∧ Below W.heap.size W wr)) (fun v9 _ => out.length - (intOf v9).toNat)
    case atStart => exact ⟨0, rfl, ⟨Nat.zero_le _, HM.out, HO.out.1, bl HB.out⟩⟩
    case round =>
      obtain ⟨i, rfl, HI⟩ := hrel
      have HLB := Aside0.mk (Nat.le_trans HM.out.l (by decide : 20 ≤ 1000))
      have HSZ := Aside0.mk (And.intro HM.out.s HO.out.2)
      clear HM HB
      have HM := Aside0.mk HI.out.2.1
      have hO2 := HI.out.2.2.1
      have HB0 := Aside0.mk HI.out.2.2.2
      have HB := Aside0.mk (Below.refl wr.heap.size wr)
      by_cases hlt : i < out.length
      · have hd : decide ((i : Int) < (out.length : Int)) = true := by simp; omega
        have hq1 := eq_true hlt
        obtain ⟨ad, rfl, hS⟩ := at_S hO2 i hlt
        obtain ⟨x, hx⟩ : ∃ x, x = out.getD i ByteArray.empty := ⟨_, rfl⟩
        rw [← hx] at hS
        have hmem : x ∈ out := by rw [hx, List.getD_eq_getElem?_getD, List.getElem?_eq_getElem hlt]; exact List.getElem_mem _
        have HX6 := Aside0.mk (HSZ.out.2 x hmem)
        have HLT := Aside0.mk hlt
        have hii : wrap64 ((i : Int) + 1) = ((i + 1 : Nat) : Int) := by have h_ := HOL.out; rw [w64s (by omega) (by omega)]; omega
        obtain ⟨z, hz⟩ : ∃ z : Int, z = ((i + 1 : Nat) : Int) := ⟨_, rfl⟩
        rw [← hz] at hii
        have hii2 : IntKind.i64.wrap ((i : Int) + 1) = z := (i64_w _).trans hii
        have HZ := Aside0.mk hz
        have HO2 := Aside0.mk hO2
        clear hlt hx hmem hz HI hO2
        go_wp2_with (first
          | (go_at_call 17; obtain ⟨base, hT⟩ := HM.out.t; (with_reducible refine (goes_calls HM.out.c HLB.out (fun x hx => Nat.le_trans (HSZ.out.1 x hx) (by decide)) hT x HX6.out).mono ?_); rintro e w5 ⟨rfl, hb⟩; replace HB := sb HB hb; replace HM := Aside0.mk (HM.out.below hb); replace HO2 := Aside0.mk (Kd.C_below HO2.out hb); clear hb hT hS))
        go_roundw
        case rel => exact ⟨i + 1, congrArg _ HZ.out, ⟨HLT.out, HM.out, HO2.out, below_step HB0.out HB.out⟩⟩
        case measure => have h1_ := HLT.out; have h2_ := HZ.out; simp [intOf]; omega
      · have hd : decide ((i : Int) < (out.length : Int)) = false := by simp; omega
        have hq1 := eq_false hlt
        clear hlt HI
        go_wp2_with (first
          | (go_at_call 17; obtain ⟨base, hT⟩ := HM.out.t; (with_reducible refine (goes_calls HM.out.c HLB.out (fun x hx => Nat.le_trans (HSZ.out.1 x hx) (by decide)) hT s0 HS.out).mono ?_); rintro e w5 ⟨rfl, hb⟩; replace HB := sb HB hb; replace HM := Aside0.mk (HM.out.below hb); clear hb hT))
        exact bodyPost_ret (v := .bool true) (by simp [results, Try.f4, go_sem]) rfl ⟨rfl, below_step HB0.out (bl HB.out)⟩
end Go.Proofs.Ytgdipibmaaehcaa.Tr
