/- trie.Find: a text is followed from node 0. Its conditions: a trie as it stands; a text of at most 2^40 bytes. -/
import Derived.Test.YtgdipibmaaehcaaTr3
import Derived.Lib.ConvBytes
import Derived.Laws.BytesArg
namespace Go.Proofs.Ytgdipibmaaehcaa.Tr
open Go Go.RowKit Go.Proofs.Ytgdipibmaaehcaa Go.Proofs.Ytgdipibmaaehcaa.Sq Go.Proofs.YtgdipibmaaehcaaW.PrintWords Go.Proofs.YtgdipibmaaehcaaW.PrintLast Go.Proofs.YtgdipibmaaehcaaW.PrintMore
set_option linter.unusedVariables false
set_option linter.unusedSimpArgs false
def strOf (s : ByteArray) : Str := s.data.toList
def findV (P : List Str) (wd : List Int) (s : Str) : Int × Bool := match pos P s with | some k => wordV P wd (k : Int) | none => (0, false)
theorem strOf_len (s : ByteArray) : (strOf s).length = s.size := data_length s
theorem byteOf_bt (s : ByteArray) (j : Nat) (hj : j < s.size) : (strOf s).take (j + 1) = (strOf s).take j ++ [byteOf ((bytesOf s).getD j 0)] := by
  have hl : j < (strOf s).length := by rw [strOf_len]; exact hj
  rw [List.take_succ_eq_append_getElem hl]
  congr 2
  have h2 : (bytesOf s).getD j 0 = (((strOf s)[j].toNat : Nat) : Int) := by
    unfold bytesOf
    rw [List.getD_eq_getElem?_getD, List.getElem?_map, show s.data.toList[j]? = some (strOf s)[j] from List.getElem?_eq_getElem hl]
    rfl
  rw [h2]
  unfold byteOf
  simp
theorem childV_at {P : List Str} {p : Str} {a : Nat} (h : pos P p = some a) (c : Int) : childV P (a : Int) c = (match pos P (p ++ [byteOf c]) with | some k => ((k : Int), true) | none => (0, false)) := by
  obtain ⟨h1, h2, _⟩ := pos_some P p a h
  unfold childV
  rw [if_pos ⟨by omega, by omega⟩, Int.toNat_natCast, List.getD_eq_getElem?_getD, h1]
  rfl
theorem w64s {x : Int} (h : -9223372036854775808 ≤ x) (h2 : x ≤ 9223372036854775807) : wrap64 x = x := by unfold wrap64; omega
set_option maxHeartbeats 2000000 in
theorem find_calls {gt base : Nat} {P : List Str} {wd : List Int} {W : World} (h : TrieAt gt base P wd W) (s : ByteArray) (hs : s.size ≤ 140737488351232) : Calls Try.prog 14 #[.pointer (some ⟨gt, 0, none⟩), .string s] W fun e w' => e = .returned (.tuple #[.int .i64 (findV P wd (strOf s)).1, .bool (findV P wd (strOf s)).2]) ∧ Below W.heap.size W w' := by
  have hg := h.good
  have hp0 : pos P [] = some 0 := pos_at hg.nd hg.nil
  have H := Aside0.mk h
  have HG := Aside0.mk hg
  clear h hg
  have kb := fun W => print_bytes (P := Try.prog) 9 49 5 Try.underlying9 Try.underlying49 Try.underlying5 s W
  go_enter Try.func14, Try.ntmps14
  go_wp2_with fail
  clear kb
  have hY := bytes_reads W 5 s (by omega)
  have HBx := Aside0.mk (bytes_below (Below.refl W.heap.size W) (Nat.le_refl _) 5 s)
  have HT := Aside0.mk (H.out.below HBx.out)
  have hwl : W.heap.size < (Lib.bytesWorld W 5 s).heap.size := by rw [Lib.bytesWorld_size]; omega
  generalize Lib.bytesWorld W 5 s = wx at *
  have HY := Aside0.mk hY
  have HWL := Aside0.mk hwl
  clear hY hwl
  go_loopw [6, 14] (fun v6 v14 wr => ∃ j a : Nat, v6 = .int .i64 (a : Int) ∧ v14 = .int .i64 (j : Int) ∧ Aside0 (j ≤ s.size ∧ pos P ((strOf s).take j) = some a ∧ Below wx.heap.size wx wr)) (fun _ v14 _ => s.size - (intOf v14).toNat)
  case atStart => exact ⟨0, 0, rfl, rfl, ⟨by omega, by rw [List.take_zero]; exact hp0, Below.refl _ _⟩⟩
  case round =>
    obtain ⟨j, a, rfl, rfl, HI⟩ := hrel
    have hj := HI.out.1
    have HTr := Aside0.mk (HT.out.below HI.out.2.2)
    have HBr := Aside0.mk (below_step HBx.out HI.out.2.2)
    by_cases hlt : j < s.size
    · have hd : decide ((j : Int) < (s.size : Int)) = true := by simp; omega
      have hdn : decide (j < s.size) = true := decide_eq_true hlt
      have hq1 := eq_true hlt
      obtain ⟨_, ea, hx⟩ := HY.out.at_ (j : Int) (by omega) (by omega)
      cases ea
      rw [add_plain, Int.toNat_natCast] at hx
      replace hx := (HI.out.2.2.cell (p := ⟨W.heap.size, j, none⟩) HWL.out).trans hx
      have hcv := childV_at HI.out.2.1 ((bytesOf s).getD j 0)
      rw [← byteOf_bt s j hlt] at hcv
      have hbb : 0 ≤ (bytesOf s).getD j 0 ∧ (bytesOf s).getD j 0 ≤ 255 := by
        have h_ := bt_range s (j : Int)
        have h2_ := rd_bytesOf s (j : Int)
        rw [rd, Int.toNat_natCast] at h2_
        rw [h2_]; exact h_
      obtain ⟨c, hc⟩ : ∃ c, c = (bytesOf s).getD j 0 := ⟨_, rfl⟩
      replace hx : wr.cell? ⟨W.heap.size, j, none⟩ = some (.int .u8 c) := by rw [hc]; exact hx
      rw [← hc] at hcv hbb
      have HCB := Aside0.mk hbb
      have hjj : wrap64 ((j : Int) + 1) = ((j + 1 : Nat) : Int) := by rw [w64s (by omega) (by omega)]; omega
      obtain ⟨z, hz⟩ : ∃ z : Int, z = ((j + 1 : Nat) : Int) := ⟨_, rfl⟩
      rw [← hz] at hjj
      have HZ := Aside0.mk hz
      have HLT := Aside0.mk hlt
      cases hpn : pos P ((strOf s).take (j + 1)) with
      | none =>
        rw [hpn] at hcv
        have HC1 := Aside0.mk (show (childV P (a : Int) c).1 = 0 by rw [hcv])
        have HC2 := Aside0.mk (show (childV P (a : Int) c).2 = false by rw [hcv])
        have hnot : pos P (strOf s) = none := by
          rw [pos_none] at hpn ⊢
          intro hm
          refine hpn (HG.out.pre ((strOf s).drop (j + 1)) _ ?_)
          rw [List.take_append_drop]; exact hm
        have HF := Aside0.mk (show findV P wd (strOf s) = (0, false) by unfold findV; rw [hnot])
        clear hc hbb hcv hpn hnot hz hlt hj
        go_wp2_with (first | (go_at_call 19; (with_reducible refine (child_calls HTr.out (a : Int) c HCB.out.1 HCB.out.2).mono ?_); rintro e w' ⟨rfl, ⟨q, rfl⟩⟩; rw [HC1.out, HC2.out]))
        rw [HF.out]
        exact bodyPost_ret (v := .tuple #[.int .i64 0, .bool false]) (by simp [results, Try.f14, go_sem]) rfl ⟨rfl, bl HBr.out⟩
      | some k =>
        rw [hpn] at hcv
        have HC1 := Aside0.mk (show (childV P (a : Int) c).1 = (k : Int) by rw [hcv])
        have HC2 := Aside0.mk (show (childV P (a : Int) c).2 = true by rw [hcv])
        have HPN := Aside0.mk hpn
        have hjj2 : IntKind.i64.wrap ((j : Int) + 1) = z := (i64_w _).trans hjj
        clear hc hbb hcv hpn hz hlt hj
        go_wp2_with (first | (go_at_call 19; (with_reducible refine (child_calls HTr.out (a : Int) c HCB.out.1 HCB.out.2).mono ?_); rintro e w' ⟨rfl, ⟨q, rfl⟩⟩; rw [HC1.out, HC2.out]))
        clear hjj hjj2
        go_roundw
        case rel => exact ⟨j + 1, k, rfl, congrArg _ HZ.out, ⟨HLT.out, HPN.out, pw_below_drewN HI.out.2.2 q⟩⟩
        case measure => have h1_ := HLT.out; have h2_ := HZ.out; simp [intOf]; omega
    · have hd : decide ((j : Int) < (s.size : Int)) = false := by simp; omega
      have hdn : decide (j < s.size) = false := decide_eq_false hlt
      have hq1 := eq_false hlt
      have htk : (strOf s).take j = strOf s := List.take_of_length_le (by rw [strOf_len]; omega)
      have hps := HI.out.2.1
      rw [htk] at hps
      have HF := Aside0.mk (show findV P wd (strOf s) = wordV P wd (a : Int) by unfold findV; rw [hps])
      clear hps htk hlt hj
      go_wp2_with (first | (go_at_call 22; (with_reducible refine (word_calls HTr.out (a : Int)).mono ?_); rintro e w' ⟨rfl, ⟨q, rfl⟩⟩))
      rw [HF.out]
      exact bodyPost_ret (v := .tuple #[.int .i64 (wordV P wd (a : Int)).1, .bool (wordV P wd (a : Int)).2]) (by simp [results, Try.f14, go_sem]) rfl ⟨rfl, bl HBr.out⟩
end Go.Proofs.Ytgdipibmaaehcaa.Tr
