/- The document's Nodes. Conditions: those in each theorem. -/
import Derived.Test.YtgdipibmaaehcaaTr8
namespace Go.Proofs.Ytgdipibmaaehcaa.Tr
open Go Go.RowKit Go.Proofs.Ytgdipibmaaehcaa Go.Proofs.Ytgdipibmaaehcaa.Sq Go.Proofs.YtgdipibmaaehcaaW.PrintWords Go.Proofs.YtgdipibmaaehcaaW.PrintLast Go.Proofs.YtgdipibmaaehcaaW.PrintMore
set_option linter.unusedVariables false
set_option linter.unusedSimpArgs false
theorem strOf_cut (s : ByteArray) (k : Nat) : strOf (s.extract 0 k) = (strOf s).take k := by
  unfold strOf
  simp
theorem find_nonneg (l : List Str) (s : Str) : find l s = -1 ∨ 0 ≤ find l s := by
  unfold find
  cases pos l s with
  | none => exact .inl rfl
  | some k => exact .inr (Int.natCast_nonneg k)
set_option maxHeartbeats 4000000 in
theorem nodes_calls {W : World} {A : Option Addr} {n cp : Nat} {ws : List ByteArray} (hr : Kd.C Kd.string W A n ws) (hn : n ≤ 1000) (hw : ∀ s ∈ ws, s.size ≤ 60) :
    Calls Try.prog 13 #[.slice A n cp] W fun e w' => ∃ v out, e = .returned v ∧ Kd.R Kd.string 9 w' W.heap.size (fun _ => True) v out ∧ out.map strOf = nodes (ws.map strOf) ∧ Below W.heap.size W w' := by
  have hlen : ws.length = n := hr.1
  obtain ⟨l, hl⟩ : ∃ l, l = ws.map strOf := ⟨_, rfl⟩
  rw [← hl]
  have HR := Aside0.mk hr
  have HN := Aside0.mk hn
  have HL := Aside0.mk (And.intro hl hlen)
  have HW := Aside0.mk hw
  clear hr hlen hn hl hw
  go_enter Try.func13, Try.ntmps13
  go_wp2_with fail
  have hR0 : Kd.R Kd.string 9 (W.alloc (.cells #[.string ⟨#[]⟩] 9)) W.heap.size (fun _ => True) (.slice (some ⟨W.heap.size, 0, none⟩) 1 1) [⟨#[]⟩] :=
    Kd.R_of_own (own_lit_of (enc := Value.string) W W.heap.size 9 [(⟨#[]⟩ : ByteArray)] (Nat.le_refl _) (by decide)) (fun _ _ => trivial)
  have HX0 := Aside0.mk (And.intro hR0 (below_alloc (Below.refl W.heap.size W) (.cells #[.string ⟨#[]⟩] 9)))
  clear hR0
  go_loopw [3, 4] (fun v3 v4 wr => ∃ (i : Nat) (xs : List ByteArray), v4 = .int .i64 (i : Int) ∧ Aside0 (i ≤ n ∧ Kd.R Kd.string 9 wr W.heap.size (fun _ => True) v3 xs ∧ xs.map strOf = nodes (l.take i) ∧ Below W.heap.size W wr ∧ xs.length ≤ 1 + 60 * i)) (fun _ v4 _ => n - (intOf v4).toNat)
  case atStart => exact ⟨0, [⟨#[]⟩], rfl, ⟨Nat.zero_le _, HX0.out.1, by rw [List.take_zero]; rfl, HX0.out.2, by simp⟩⟩
  case round =>
    obtain ⟨i, xs0, rfl, HI⟩ := hrel
    by_cases hlt : i < n
    · have hd1 : decide ((i : Int) < (n : Int)) = true := by simp; omega
      have hq1 := eq_true hlt
      have HLT := Aside0.mk hlt
      obtain ⟨ad, rfl, _⟩ := at_S (Kd.C_below HR.out HI.out.2.2.2.1) i hlt
      obtain ⟨s, hs⟩ : ∃ s, s = ws.getD i ByteArray.empty := ⟨_, rfl⟩
      have HS : Aside0 (∀ W', Below W.heap.size W W' → W'.cell? (ad.add i) = some (.string s)) := ⟨fun W' hb => by
        obtain ⟨ad', ea, hx⟩ := at_S (Kd.C_below HR.out hb) i hlt
        cases ea
        rw [hs]; exact hx⟩
      have hsi := strOf_getD (ws := ws) (i := i) (by rw [HL.out.2]; exact hlt)
      rw [← HL.out.1, ← hs] at hsi
      have HSI := Aside0.mk (take_snoc hsi)
      have hw60 : s.size ≤ 60 := HW.out s (by
        have h_ := HL.out.2
        rw [hs, List.getD_eq_getElem?_getD, List.getElem?_eq_getElem (by omega)]; exact List.getElem_mem _)
      have HW60 := Aside0.mk hw60
      have hii : wrap64 ((i : Int) + 1) = ((i + 1 : Nat) : Int) := by have h_ := HN.out; rw [w64s (by omega) (by omega)]; omega
      obtain ⟨z, hz⟩ : ∃ z : Int, z = ((i + 1 : Nat) : Int) := ⟨_, rfl⟩
      rw [← hz] at hii
      have hii2 : IntKind.i64.wrap ((i : Int) + 1) = z := (i64_w _).trans hii
      have HZ := Aside0.mk hz
      clear hlt hs hsi hw60 hz hii hii2
      go_wp2_with fail
      go_loopw [3, 5] (fun v3 v5 w2 => ∃ (j : Nat) (xs : List ByteArray), v5 = .int .i64 ((j + 1 : Nat) : Int) ∧ Aside0 (j ≤ s.size ∧ Kd.R Kd.string 9 w2 W.heap.size (fun _ => True) v3 xs ∧ xs.map strOf = addW (nodes (l.take i)) [] ((strOf s).take j) ∧ Below W.heap.size W w2 ∧ xs.length ≤ 1 + 60 * i + j)) (fun _ v5 _ => s.size + 1 - (intOf v5).toNat)
      case atStart => exact ⟨0, xs0, rfl, ⟨Nat.zero_le _, HI.out.2.1, by rw [List.take_zero]; exact HI.out.2.2.1, HI.out.2.2.2.1, by have h_ := HI.out.2.2.2.2; omega⟩⟩
      case round =>
        obtain ⟨j, xs, rfl, HJ⟩ := hrel
        obtain ⟨hjs, hR, hX, hB, hlx⟩ := HJ.out
        obtain ⟨k, hk⟩ : ∃ k, k = j + 1 := ⟨_, rfl⟩
        rw [← hk]
        have hx := HS.out wr hB
        have hsn := addW_snoc ((strOf s).take j) (nodes (l.take i)) []
        by_cases hlt2 : j < s.size
        · have hd2 : decide ((k : Int) ≤ (s.size : Int)) = true := by simp; omega
          have hq2 := eq_true (show (k : Int) ≤ (s.size : Int) by omega)
          have htk : strOf (s.extract 0 k) = (strOf s).take j ++ [byteOf ((bytesOf s).getD j 0)] := by rw [strOf_cut, hk, byteOf_bt s j hlt2]
          have hsn := addW_snoc ((strOf s).take j) (nodes (l.take i)) [] (byteOf ((bytesOf s).getD j 0))
          rw [← byteOf_bt s j hlt2, List.nil_append, ← byteOf_bt s j hlt2, ← hX] at hsn
          rw [← byteOf_bt s j hlt2] at htk
          obtain ⟨A3, c3, rfl⟩ := Kd.R_slice hR
          have HC := Aside0.mk (Kd.R_reads' hR).2.2
          have hjj : wrap64 ((k : Int) + 1) = ((j + 1 + 1 : Nat) : Int) := by have h_ := HW60.out; rw [w64s (by omega) (by omega)]; omega
          obtain ⟨z2, hz2⟩ : ∃ z : Int, z = ((j + 1 + 1 : Nat) : Int) := ⟨_, rfl⟩
          rw [← hz2] at hjj
          have hjj2 : IntKind.i64.wrap ((k : Int) + 1) = z2 := (i64_w _).trans hjj
          have HZ2 := Aside0.mk hz2
          have HK := Aside0.mk (And.intro hk hlt2)
          have HTK := Aside0.mk htk
          have HSN := Aside0.mk hsn
          have HXS : Aside0 (xs.length ≤ 140737488351232 ∧ (xs.length + 1) * 16 ≤ 140737488355328 ∧ W.heap.size ≤ wr.heap.size) := ⟨by have h_ := HN.out; have h2_ := HLT.out; have h3_ := HW60.out; omega, by have h_ := HN.out; have h2_ := HLT.out; have h3_ := HW60.out; omega, hB.size⟩
          obtain ⟨F, hF⟩ : ∃ F, F = find (xs.map strOf) (strOf (s.extract 0 k)) := ⟨_, rfl⟩
          have HF := Aside0.mk hF
          have HRR : ∀ q, Aside0 (Kd.R Kd.string 9 (wr.drewN q) W.heap.size (fun _ => True) (.slice A3 xs.length c3) xs ∧ Below W.heap.size W (wr.drewN q) ∧ W.heap.size ≤ (wr.drewN q).heap.size) := fun q => ⟨Kd.R_drewN hR q, pw_below_drewN hB q, hB.size⟩
          rcases find_nonneg (xs.map strOf) (strOf (s.extract 0 k)) with hneg | hpos
          · have hd3 : decide (F < 0) = true := by rw [hF, hneg]; rfl
            have hnm : s.extract 0 k ∉ xs := fun hm => (find_neg.1 hneg) (List.mem_map_of_mem hm)
            have HNM := Aside0.mk hneg
            clear hjs hR hX hB hlx hk hsn htk hz2 hF hneg hnm hlt2
            go_wp2_with (first
              | (go_at_call 15; (with_reducible refine (rfind_calls HC.out HXS.out.1 (s.extract 0 k)).mono ?_); rintro e w_ ⟨rfl, ⟨q, rfl⟩⟩; rw [← HF.out])
              | (at_builtin; go_loud (refine Kd.R_append Kd.string (w0 := W) W.heap.size rfl (.tmp 31) (.tmp 38) 22 9 (.string ⟨#[]⟩) 16 rfl und22 info9 rfl (by decide) (by omega) _ xs (s.extract 0 k) [.string (s.extract 0 k)] (fun _ => True) (fun _ => False) rfl rfl (kS_M _ _ _ (s.extract 0 k)) (fun _ hk => hk.elim) (fun _ _ => trivial) (HRR q).out.1 (HRR q).out.2.1 (HRR q).out.2.2 HXS.out.2.1 ?_); intro v1 w1 hR1 hB1 hG1 _; replace hR1 := Aside0.mk (And.intro hR1 hB1); clear hB1 hG1))
            clear hjj hjj2
            go_roundw
            case rel =>
              refine ⟨j + 1, xs ++ [s.extract 0 k], congrArg _ HZ2.out, ⟨HK.out.2, hR1.out.1, ?_, hR1.out.2, ?_⟩⟩
              · have h1_ := HSN.out
                rw [if_neg (by rw [← HTK.out]; exact find_neg.1 HNM.out)] at h1_
                rw [List.map_append, h1_, List.map_singleton, HTK.out]
              · have h1_ := HJ.out.2.2.2.2
                simp; omega
            case measure => have h1_ := HK.out; have h2_ := HZ2.out; simp [intOf]; omega
          · have hd3 : decide (F < 0) = false := by rw [hF]; simp; omega
            have HPO := Aside0.mk hpos
            clear hjs hR hX hB hlx hk hsn htk hz2 hF hpos hlt2
            go_wp2_with (first
              | (go_at_call 15; (with_reducible refine (rfind_calls HC.out HXS.out.1 (s.extract 0 k)).mono ?_); rintro e w_ ⟨rfl, ⟨q, rfl⟩⟩; rw [← HF.out]))
            clear hjj hjj2
            go_roundw
            case rel =>
              refine ⟨j + 1, xs, congrArg _ HZ2.out, ⟨HK.out.2, (HRR q).out.1, ?_, (HRR q).out.2.1, ?_⟩⟩
              · have h1_ := HSN.out
                rw [if_pos (by rw [← HTK.out]; exact Classical.byContradiction fun hm => by have := find_neg.2 hm; have h_ := HPO.out; omega)] at h1_
                exact h1_.symm
              · have h1_ := HJ.out.2.2.2.2
                omega
            case measure => have h1_ := HK.out; have h2_ := HZ2.out; simp [intOf]; omega
        · have hje : j = s.size := by omega
          have hd2 : decide ((k : Int) ≤ (s.size : Int)) = false := by simp; omega
          have hq2 := eq_false (show ¬ (k : Int) ≤ (s.size : Int) by omega)
          have htk : (strOf s).take j = strOf s := List.take_of_length_le (by rw [strOf_len]; omega)
          have hnx : xs.map strOf = nodes (l.take (i + 1)) := by rw [hX, htk, HSI.out, nodes_snoc]
          have HE := Aside0.mk (show Kd.R Kd.string 9 wr W.heap.size (fun _ => True) u3 xs ∧ xs.map strOf = nodes (l.take (i + 1)) ∧ Below W.heap.size W wr ∧ xs.length ≤ 1 + 60 * (i + 1) from ⟨hR, hnx, hB, by have h_ := HW60.out; omega⟩)
          have hii : wrap64 ((i : Int) + 1) = z := by have h_ := HN.out; have h2_ := HLT.out; have h3_ := HZ.out; rw [w64s (by omega) (by omega)]; omega
          have hii2 : IntKind.i64.wrap ((i : Int) + 1) = z := (i64_w _).trans hii
          clear hjs hR hX hB hlx hk hsn htk hje hnx hlt2
          go_wp2
          go_roundw
          case rel => exact ⟨i + 1, xs, congrArg _ HZ.out, ⟨HLT.out, HE.out.1, HE.out.2.1, HE.out.2.2.1, HE.out.2.2.2⟩⟩
          case measure => have h1_ := HLT.out; have h2_ := HZ.out; simp [intOf]; omega
    · have hd1 : decide ((i : Int) < (n : Int)) = false := by simp; omega
      have hq1 := eq_false hlt
      have htk : l.take i = l := List.take_of_length_le (by rw [HL.out.1, List.length_map]; have := HL.out.2; omega)
      have hHI := HI.out
      rw [htk] at hHI
      have HE := Aside0.mk hHI
      clear hHI htk hlt HI
      go_wp2
      exact bodyPost_ret (v := u3) (by simp [results, Try.f13, go_sem]) rfl ⟨_, _, rfl, HE.out.2.1, HE.out.2.2.1, HE.out.2.2.2.1⟩
end Go.Proofs.Ytgdipibmaaehcaa.Tr
