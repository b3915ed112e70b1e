/- The document's Find, the law's few. Conditions: those in each theorem. -/
import Derived.Test.YtgdipibmaaehcaaTr7
namespace Go.Proofs.Ytgdipibmaaehcaa.Tr
open Go Go.RowKit Go.Proofs.Ytgdipibmaaehcaa Go.Proofs.Ytgdipibmaaehcaa.Sq Go.Proofs.YtgdipibmaaehcaaW.PrintWords Go.Proofs.YtgdipibmaaehcaaW.PrintLast Go.Proofs.YtgdipibmaaehcaaW.PrintMore
set_option linter.unusedVariables false
set_option linter.unusedSimpArgs false
theorem strOf_inj {a b : ByteArray} (h : strOf a = strOf b) : a = b := by
  cases a; cases b; unfold strOf at h; simp at h; rw [ByteArray.mk.injEq]; exact h
theorem strOf_getD {ws : List ByteArray} {i : Nat} (h : i < ws.length) : (ws.map strOf)[i]? = some (strOf (ws.getD i ByteArray.empty)) := by
  rw [List.getElem?_map, List.getD_eq_getElem?_getD, List.getElem?_eq_getElem h]; rfl
theorem take_snoc {l : List Str} {i : Nat} {x : Str} (h : l[i]? = some x) : l.take (i + 1) = l.take i ++ [x] := by
  rw [List.take_add_one, h]; rfl
theorem find_at {l : List Str} {i : Nat} {x : Str} (h : l[i]? = some x) (hn : find (l.take i) x = -1) : find l x = (i : Int) := by
  have e : pos l x = some i := by
    cases q : pos l x with
    | none => exact absurd (List.mem_of_getElem? h) ((pos_none l x).1 q)
    | some j =>
      obtain ⟨h1, h2, h3⟩ := pos_some l x j q
      rcases Nat.lt_trichotomy i j with r | r | r
      · exact absurd h (h3 i r)
      · rw [r]
      · exact absurd (List.mem_of_getElem? (by rw [List.getElem?_take_of_lt r]; exact h1)) (find_neg.1 hn)
  unfold find; rw [e]
theorem bq_eq (x : ByteArray) : (x.toList == x.toList) = true := by simp
theorem bq_ne {x y : ByteArray} (h : x ≠ y) : (x.toList == y.toList) = false := by
  rw [beq_eq_false_iff_ne]
  intro e
  apply h
  apply strOf_inj
  unfold strOf
  simpa [ByteArray.toList_eq] using e
set_option maxHeartbeats 2000000 in
theorem rfind_calls {W : World} {A : Option Addr} {n cp : Nat} {ws : List ByteArray} (hr : Kd.C Kd.string W A n ws) (hn : n ≤ 140737488351232) (s : ByteArray) :
    Calls Try.prog 15 #[.slice A n cp, .string s] W fun e w' => e = .returned (.int .i64 (find (ws.map strOf) (strOf s))) ∧ Drawn0 W w' := by
  have hlen : ws.length = n := hr.1
  obtain ⟨l, hl⟩ : ∃ l, l = ws.map strOf := ⟨_, rfl⟩
  rw [← hl]
  have HR := Aside0.mk hr
  have HN := Aside0.mk hn
  have HL := Aside0.mk (And.intro hl hlen)
  clear hr hl hlen hn
  go_enter Try.func15, Try.ntmps15
  go_wp2_with fail
  go_loopw [5] (fun v5 wr => ∃ i : Nat, v5 = .int .i64 (i : Int) ∧ Aside0 (i ≤ n ∧ find (l.take i) (strOf s) = -1 ∧ Drawn0 W wr)) (fun v5 _ => n - (intOf v5).toNat)
  case atStart => exact ⟨0, rfl, ⟨Nat.zero_le _, rfl, Drawn0.refl _⟩⟩
  case round =>
    obtain ⟨i, rfl, HI⟩ := hrel
    obtain ⟨_, _, ⟨q, rfl⟩⟩ := HI.out
    by_cases hlt : i < n
    · have hd : decide ((i : Int) < (n : Int)) = true := by simp; omega
      have hdn : decide (i < n) = true := decide_eq_true hlt
      have hq1 := eq_true hlt
      obtain ⟨ad, rfl, hS⟩ := at_S (Kd.C_below HR.out (pw_below_drewN (Below.refl W.heap.size W) q)) i hlt
      have hsi := strOf_getD (ws := ws) (i := i) (by rw [HL.out.2]; exact hlt)
      rw [← HL.out.1] at hsi
      obtain ⟨x, hx⟩ : ∃ x, x = ws.getD i ByteArray.empty := ⟨_, rfl⟩
      rw [← hx] at hS hsi
      have HSI := Aside0.mk hsi
      have HLT := Aside0.mk hlt
      have hii : wrap64 ((i : Int) + 1) = ((i + 1 : Nat) : Int) := by have h_ := HN.out; rw [w64s (by omega) (by omega)]; omega
      obtain ⟨z, hz⟩ : ∃ z : Int, z = ((i + 1 : Nat) : Int) := ⟨_, rfl⟩
      rw [← hz] at hii
      have hii2 : IntKind.i64.wrap ((i : Int) + 1) = z := (i64_w _).trans hii
      have HZ := Aside0.mk hz
      by_cases he : x = s
      · subst he
        have hb1 := bq_eq x
        have HF := Aside0.mk (show find l (strOf x) = (i : Int) from find_at hsi HI.out.2.1)
        clear hsi hx hlt hz
        go_wp2
        rw [HF.out]
        exact bodyPost_ret (v := .int .i64 (i : Int)) (by simp [results, Try.f15, go_sem]) rfl ⟨rfl, ⟨q, rfl⟩⟩
      · have hb1 := bq_ne he
        have HE := Aside0.mk he
        clear hsi hx hlt hz he
        go_wp2
        go_roundw
        case rel =>
          refine ⟨i + 1, congrArg _ HZ.out, ⟨HLT.out, ?_, ⟨q, rfl⟩⟩⟩
          rw [take_snoc HSI.out, find_snoc, if_neg]
          · exact HI.out.2.1
          · rintro ⟨_, h⟩; exact HE.out (strOf_inj h)
        case measure => have h1_ := HLT.out; have h2_ := HZ.out; simp [intOf]; omega
    · have hd : decide ((i : Int) < (n : Int)) = false := by simp; omega
      have hdn : decide (i < n) = false := decide_eq_false hlt
      have hq1 := eq_false hlt
      have htk : l.take i = l := List.take_of_length_le (by rw [HL.out.1, List.length_map]; have := HL.out.2; omega)
      have hHI := HI.out
      rw [htk] at hHI
      have HF := Aside0.mk hHI.2.1
      clear hHI htk hlt
      go_wp2
      rw [HF.out]
      exact bodyPost_ret (v := .int .i64 (-1)) (by simp [results, Try.f15, go_sem]) rfl ⟨rfl, ⟨q, rfl⟩⟩
/-- The law's few: at most 20, of at most 6 bytes. -/
def cut6 (s : ByteArray) : ByteArray := if 6 < s.size then s.extract 0 6 else s
def fewV (ws : List ByteArray) : List ByteArray := (ws.take 20).map cut6
theorem und22 : Try.prog.underlying 22 = some (.slice 9) := by kernel_rfl
theorem info9 : (Try.prog.info? 9).map (fun i => (i.zero, i.size, i.bytes)) = some (some (.string ⟨#[]⟩), 1, 16) := by kernel_rfl
theorem kS_M (w : World) (base : Nat) (ok : Nat → Prop) (x : ByteArray) : Kd.string.M w base ok x [.string x] := rfl
set_option maxHeartbeats 4000000 in
theorem few_calls {W : World} {A : Option Addr} {n cp : Nat} {ws : List ByteArray} (hr : Kd.C Kd.string W A n ws) :
    Calls Try.prog 10 #[.slice A n cp] W fun e w' => ∃ v, e = .returned v ∧ Kd.R Kd.string 9 w' W.heap.size (fun _ => True) v (fewV ws) ∧ Below W.heap.size W w' := by
  have hlen : ws.length = n := hr.1
  have HR := Aside0.mk hr
  have HL := Aside0.mk hlen
  clear hr hlen
  go_enter Try.func10, Try.ntmps10
  go_wp2_with fail
  go_loopw [3, 4] (fun v3 v4 wr => ∃ i : Nat, v4 = .int .i64 (i : Int) ∧ Aside0 (i ≤ n ∧ i ≤ 20 ∧ Kd.R Kd.string 9 wr W.heap.size (fun _ => True) v3 ((ws.take i).map cut6) ∧ Below W.heap.size W wr)) (fun _ v4 _ => n - (intOf v4).toNat)
  case atStart => exact ⟨0, rfl, ⟨Nat.zero_le _, by omega, by rw [List.take_zero]; exact Kd.R_nil _ _ _ _ _, Below.refl _ _⟩⟩
  case round =>
    obtain ⟨i, rfl, HI⟩ := hrel
    by_cases hlt : i < n ∧ i < 20
    · obtain ⟨ad, rfl, hS⟩ := at_S (Kd.C_below HR.out HI.out.2.2.2) i hlt.1
      have hd1 : decide ((i : Int) < (n : Int)) = true := by simp; omega
      have hd2 : decide ((i : Int) < 20) = true := by simp; omega
      have hq1 := eq_true hlt.1
      obtain ⟨x, hx⟩ : ∃ x, x = ws.getD i ByteArray.empty := ⟨_, rfl⟩
      rw [← hx] at hS
      obtain ⟨y, hy⟩ : ∃ y, y = cut6 x := ⟨_, rfl⟩
      obtain ⟨xs, hxs⟩ : ∃ xs, xs = (ws.take i).map cut6 := ⟨_, rfl⟩
      have htk : (ws.take (i + 1)).map cut6 = xs ++ [y] := by
        have h_ := HL.out
        rw [List.take_add_one, List.getElem?_eq_getElem (by omega), List.map_append, hxs, hy, hx, List.getD_eq_getElem?_getD, List.getElem?_eq_getElem (by omega)]; rfl
      have HTK := Aside0.mk htk
      have HLT := Aside0.mk hlt
      have hii : wrap64 ((i : Int) + 1) = ((i + 1 : Nat) : Int) := by rw [w64s (by omega) (by omega)]; omega
      obtain ⟨z, hz⟩ : ∃ z : Int, z = ((i + 1 : Nat) : Int) := ⟨_, rfl⟩
      rw [← hz] at hii
      have hii2 : IntKind.i64.wrap ((i : Int) + 1) = z := (i64_w _).trans hii
      have HZ := Aside0.mk hz
      have HL20 : Aside0 ((xs.length + 1) * 16 ≤ 140737488355328 ∧ W.heap.size ≤ wr.heap.size) := by
        constructor
        have h1_ := HI.out.2.2.2.size
        rw [hxs, List.length_map, List.length_take]
        omega
      have hHI := HI.out
      rw [← hxs] at hHI
      have HI2 := Aside0.mk hHI
      clear HI
      obtain ⟨A3, c3, rfl⟩ := Kd.R_slice hHI.2.2.1
      have hcc : x.extract 0 6 = y ∨ y = x := by
        rw [hy]; unfold cut6
        by_cases h6 : 6 < x.size
        · rw [if_pos h6]; exact .inl rfl
        · rw [if_neg h6]; exact .inr rfl
      by_cases h6 : 6 < x.size
      · have h6d : decide ((6 : Int) < (x.size : Int)) = true := by simp; omega
        have h6q := eq_true (show (6 : Int) ≤ (x.size : Int) by omega)
        have hyx : x.extract 0 6 = y := by rw [hy]; unfold cut6; rw [if_pos h6]
        clear hlt hx hy htk hz h6 hxs hHI hcc
        go_wp2_with (at_builtin; go_loud (refine Kd.R_append Kd.string (w0 := W) W.heap.size rfl (.tmp 25) (.tmp 27) 22 9 (.string ⟨#[]⟩) 16 rfl und22 info9 rfl (by decide) (by omega) _ xs y [.string y] (fun _ => True) (fun _ => False) rfl rfl (kS_M _ _ _ y) (fun _ hk => hk.elim) (fun _ _ => trivial) HI2.out.2.2.1 HI2.out.2.2.2 HL20.out.2 HL20.out.1 ?_); intro v1 w1 hR1 hB1 hG1 _; rw [← HTK.out] at hR1; replace hR1 := Aside0.mk (And.intro hR1 hB1); clear hB1 hG1)
        go_roundw
        case rel => exact ⟨i + 1, congrArg _ HZ.out, ⟨HLT.out.1, HLT.out.2, hR1.out.1, hR1.out.2⟩⟩
        case measure => have h1_ := HLT.out; have h2_ := HZ.out; simp [intOf]; omega
      · have h6d : decide ((6 : Int) < (x.size : Int)) = false := by simp; omega
        have h6q := eq_false h6
        have hyx : y = x := by rw [hy]; unfold cut6; rw [if_neg h6]
        subst hyx
        clear hlt hx hy htk hz h6 hxs hHI hcc
        go_wp2_with (at_builtin; go_loud (refine Kd.R_append Kd.string (w0 := W) W.heap.size rfl (.tmp 25) (.tmp 27) 22 9 (.string ⟨#[]⟩) 16 rfl und22 info9 rfl (by decide) (by omega) _ xs y [.string y] (fun _ => True) (fun _ => False) rfl rfl (kS_M _ _ _ y) (fun _ hk => hk.elim) (fun _ _ => trivial) HI2.out.2.2.1 HI2.out.2.2.2 HL20.out.2 HL20.out.1 ?_); intro v1 w1 hR1 hB1 hG1 _; rw [← HTK.out] at hR1; replace hR1 := Aside0.mk (And.intro hR1 hB1); clear hB1 hG1)
        go_roundw
        case rel => exact ⟨i + 1, congrArg _ HZ.out, ⟨HLT.out.1, HLT.out.2, hR1.out.1, hR1.out.2⟩⟩
        case measure => have h1_ := HLT.out; have h2_ := HZ.out; simp [intOf]; omega
    · have hfew : (ws.take i).map cut6 = fewV ws := by
        unfold fewV
        have h_ := HL.out
        have h2_ := HI.out
        by_cases h20 : i = 20
        · rw [h20]
        · rw [List.take_of_length_le (by omega), List.take_of_length_le (by omega)]
      have hHI := HI.out
      rw [hfew] at hHI
      have HE := Aside0.mk hHI
      by_cases h1 : i < n
      · have hd1 : decide ((i : Int) < (n : Int)) = true := by simp; omega
        have hd2 : decide ((i : Int) < 20) = false := by simp; omega
        clear hHI hfew hlt HI
        go_wp2
        exact bodyPost_ret (v := u3) (by simp [results, Try.f10, go_sem]) rfl ⟨_, rfl, HE.out.2.2.1, HE.out.2.2.2⟩
      · have hd1 : decide ((i : Int) < (n : Int)) = false := by simp; omega
        clear hHI hfew hlt HI
        go_wp2
        exact bodyPost_ret (v := u3) (by simp [results, Try.f10, go_sem]) rfl ⟨_, rfl, HE.out.2.2.1, HE.out.2.2.2⟩
end Go.Proofs.Ytgdipibmaaehcaa.Tr
