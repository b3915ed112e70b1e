import Derived.Test.YtkogfbgeepgjgaaH3
namespace Go.Proofs.Ytkogfbgeepgjgaa
open Go.RowKit Go.Proofs.YtkogfbgeepgjgaaW.PrintWords Go.Proofs.YtkogfbgeepgjgaaW.PrintLast Go.Proofs.YtkogfbgeepgjgaaW.PrintMore

theorem least_any (A : Option Addr) (cap n : Nat) (l : List Int) (w : World) {base : Nat} {ok : Nat → Prop} (hr : Kd.R (Kd.int .i64) 3 w base ok (.slice A n cap) l) (h0 : 0 < n) (hn : n ≤ 1000000) :
    Calls Try.prog 17 #[.slice A n cap] w fun e w' => e = .returned (.int .i64 (minL l)) ∧ Below w.heap.size w w' := by
  have h := Kd.R_reads' hr
  obtain rfl : n = l.length := h.1
  exact PBase.edit_Least.calls _ A cap l _ w h.2.2 h.2.1 (least_eq l h0 hn)
def wloop (a : ByteArray) (kk : Int) : List Int → List Int → Int × Bool
  | [], row => if rd row a.size > kk then (0, false) else (rd row a.size, true)
  | c :: cs, row => if minL row > kk then (0, false) else wloop a kk cs (rowNext a row c)
def within (a b : ByteArray) (kk : Int) : Int × Bool := wloop a kk (bytesOf b) (iota (a.size + 1))

set_option maxHeartbeats 2000000 in
theorem within_calls (a b : ByteArray) (kk : Int) (w : World) (ha : a.size ≤ 999999) (hb : b.size ≤ 140737488351232) :
    Calls Try.prog 19 #[.string a, .string b, .int .i64 kk] w fun e w' => e = .returned (.tuple #[.int .i64 (within a b kk).1, .bool (within a b kk).2]) ∧ Below w.heap.size w w' := by
  have kb := fun W => print_bytes (P := Try.prog) 9 32 5 Try.underlying9 Try.underlying32 Try.underlying5 b W
  obtain ⟨R, hRR⟩ : ∃ R, R = within a b kk := ⟨_, rfl⟩
  rw [← hRR]
  have HRR := Aside0.mk hRR
  clear hRR
  go_enter Try.func19, Try.ntmps19
  go_wp2_with (first | (go_at_call 15; refine (PBase.edit_Start.calls _ a _ _ (start_eq a ha)).mono ?_; rintro e w1 ⟨v, rfl, hr, hb1⟩; obtain ⟨A1, c1, rfl⟩ := Kd.R_slice hr; rw [iota_length] at hr ⊢; have HR := Aside0.mk hr; have HB1 := Aside0.mk hb1; clear hr hb1))
  have hby := bytes_reads w1 5 b (by omega)
  have HY := Aside0.mk hby
  have hbB : Below w.heap.size w (Lib.bytesWorld w1 5 b) := bytes_below HB1.out HB1.out.size 5 b
  have hrB : Kd.R (Kd.int .i64) 3 (Lib.bytesWorld w1 5 b) w.heap.size (fun _ => True) (.slice A1 (a.size + 1) c1) (iota (a.size + 1)) := Kd.R_below HR.out (bytes_below (Below.refl _ _) (Nat.le_refl _) 5 b)
  have hwx : w1.heap.size < (Lib.bytesWorld w1 5 b).heap.size := by rw [Lib.bytesWorld_size]; omega
  clear hby HR
  generalize Lib.bytesWorld w1 5 b = wx at *
  have HB := Aside0.mk hbB
  have HR := Aside0.mk hrB
  clear hbB hrB kb
  go_loopw [8, 17] (fun v8 v17 wr => ∃ (k : Nat) (A : Option Addr) (cp : Nat) (xs : List Int), v17 = .int .i64 k ∧ k ≤ b.size ∧ v8 = .slice A (a.size + 1) cp ∧ Aside0 (wloop a kk ((bytesOf b).drop k) xs = R) ∧
      Aside0 (Kd.R (Kd.int .i64) 3 wr w.heap.size (fun _ => True) (.slice A (a.size + 1) cp) xs) ∧ Aside0 (Below wx.heap.size wx wr))
    (fun _ v17 _ => b.size - (intOf v17).toNat)
  case atStart => exact ⟨0, A1, c1, _, rfl, by omega, rfl, ⟨HRR.out.symm⟩, HR, ⟨Below.refl _ _⟩⟩
  case round =>
    clear HR HRR
    obtain ⟨k, A, cp, xs, rfl, hk, rfl, HW, HR, HX⟩ := hrel
    by_cases hlt : k < b.size
    · obtain ⟨_, ea, hx⟩ := HY.out.at_ (k : Int) (by omega) (by omega)
      cases ea
      rw [add_plain, Int.toNat_natCast] at hx
      replace hx := (HX.out.cell (p := ⟨w1.heap.size, k, none⟩) hwx).trans hx
      have hdr : (bytesOf b).drop k = rd (bytesOf b) k :: (bytesOf b).drop (k + 1) := by
        have hl : k < (bytesOf b).length := by rw [bytesOf_length]; exact hlt
        rw [List.drop_eq_getElem_cons hl]
        simp [rd, hl]
      have HW2 := Aside0.mk (by have h := HW.out; rw [hdr] at h; exact h : wloop a kk (rd (bytesOf b) k :: (bytesOf b).drop (k + 1)) xs = R)
      clear hdr HW
      by_cases hm : minL xs > kk
      · have hm' : kk < minL xs := hm
        have HZ : Aside0 ((0, false) = R) := ⟨by rw [← HW2.out]; unfold wloop; rw [if_pos hm]⟩
        clear HW2 hm
        go_wp2_with (first | (go_at_call 17; refine (least_any A cp (a.size + 1) _ _ HR.out (by omega) (by omega)).mono ?_; rintro e w2 ⟨rfl, hb2⟩; have HB2 := Aside0.mk hb2; clear hb2))
        go_ret2
        rw [← HZ.out]
        exact ⟨rfl, below_step (below_step HB.out HX.out) HB2.out⟩
      · have hm' : minL xs ≤ kk := by omega
        have HZ : Aside0 (wloop a kk ((bytesOf b).drop (k + 1)) (rowNext a xs (rd (bytesOf b) k)) = R) := ⟨by rw [← HW2.out]; conv => rhs; unfold wloop; rw [if_neg hm]⟩
        clear HW2 hm
        go_wp2_with (first | (go_at_call 17; refine (least_any A cp (a.size + 1) _ _ HR.out (by omega) (by omega)).mono ?_; rintro e w2 ⟨rfl, hb2⟩; have HB2 := Aside0.mk hb2; clear hb2) | (go_at_call 12; refine (next_any a A cp (a.size + 1) _ (rd (bytesOf b) k) _ (Kd.R_below HR.out HB2.out) rfl (by omega)).mono ?_; rintro e w3 ⟨A2, c2, rfl, hr2, hb3⟩))
        go_roundw
        case rel => exact ⟨k + 1, A2, c2, _, by go_num, by omega, rfl, HZ, ⟨Kd.R_lower hr2 (Nat.le_trans HB.out.size (Nat.le_trans HX.out.size HB2.out.size))⟩, ⟨below_step (below_step HX.out HB2.out) hb3⟩⟩
        case measure => simp [intOf]; omega
    · obtain rfl : k = b.size := by omega
      have h := Kd.R_reads' HR.out
      obtain ⟨ad, rfl, hx⟩ := Kd.at_int h.2.2 (a.size : Int) (by omega) (by omega)
      rw [Int.toNat_natCast] at hx
      have hw := HW.out
      rw [List.drop_of_length_le (by rw [bytesOf_length]; omega)] at hw
      have hd : decide ((b.size : Int) < (b.size : Int)) = false := by simp
      clear h
      by_cases hm : rd xs a.size > kk
      · have hm' : kk < rd xs a.size := hm
        have HZ : Aside0 ((0, false) = R) := ⟨by rw [← hw]; unfold wloop; rw [if_pos hm]⟩
        clear hw hm HW
        go_wp2
        go_ret2
        rw [← HZ.out]
        exact ⟨rfl, below_step HB.out HX.out⟩
      · have hm' : rd xs a.size ≤ kk := by omega
        have HZ : Aside0 ((rd xs a.size, true) = R) := ⟨by rw [← hw]; unfold wloop; rw [if_neg hm]⟩
        clear hw hm HW
        go_wp2
        go_ret2
        rw [← HZ.out]
        exact ⟨rfl, below_step HB.out HX.out⟩

end Go.Proofs.Ytkogfbgeepgjgaa
