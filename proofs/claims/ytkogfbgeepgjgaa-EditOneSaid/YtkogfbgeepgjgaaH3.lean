import Derived.Test.YtkogfbgeepgjgaaU1
namespace Go.Proofs.Ytkogfbgeepgjgaa
open Go.RowKit Go.Proofs.YtkogfbgeepgjgaaW.PrintWords Go.Proofs.YtkogfbgeepgjgaaW.PrintLast Go.Proofs.YtkogfbgeepgjgaaW.PrintMore

def rowNext (s : ByteArray) (l : List Int) (c : Int) : List Int := nloop s l c s.size ((List.replicate l.length 0).set 0 (wrap64 (rd l 0 + 1))) 0
theorem nloop_length (s : ByteArray) (l : List Int) (c : Int) : ∀ (k : Nat) (o : List Int) (i : Int), (nloop s l c k o i).length = o.length
  | 0, _, _ => rfl
  | k + 1, o, i => by unfold nloop; rw [nloop_length s l c k]; simp
theorem rowNext_length (s : ByteArray) (l : List Int) (c : Int) : (rowNext s l c).length = l.length := by unfold rowNext; rw [nloop_length]; simp
theorem next_any (s : ByteArray) (A : Option Addr) (cap n : Nat) (l : List Int) (c : Int) (w : World) {base : Nat} {ok : Nat → Prop} (hr : Kd.R (Kd.int .i64) 3 w base ok (.slice A n cap) l) (hl : n = s.size + 1) (hs : s.size ≤ 1000000) :
    Calls Try.prog 12 #[.string s, .slice A n cap, .int .u8 c] w fun e w' => ∃ A2 c2, e = .returned (.slice A2 n c2) ∧
      Kd.R (Kd.int .i64) 3 w' w.heap.size (fun _ => True) (.slice A2 n c2) (rowNext s l c) ∧ Below w.heap.size w w' := by
  have h := Kd.R_reads' hr
  obtain rfl : n = l.length := h.1
  refine (next_calls s A cap l c w h.2.2 hl hs).mono ?_
  rintro e w' ⟨v, rfl, h1, h2⟩
  obtain ⟨A2, c2, rfl⟩ := Kd.R_slice h1
  rw [show (nloop s l c s.size ((List.replicate l.length 0).set 0 (wrap64 (rd l 0 + 1))) 0).length = l.length from rowNext_length s l c] at h1 ⊢
  exact ⟨A2, c2, rfl, h1, h2⟩
def rowsAfter (s : ByteArray) (l : List Int) (cs : List Int) : List Int := cs.foldl (rowNext s) l
theorem rowsAfter_length (s : ByteArray) : ∀ (cs : List Int) (l : List Int), (rowsAfter s l cs).length = l.length
  | [], _ => rfl
  | c :: cs, l => by show (rowsAfter s (rowNext s l c) cs).length = _; rw [rowsAfter_length s cs, rowNext_length]
theorem rowsAfter_snoc (s : ByteArray) (l cs : List Int) (k : Nat) (h : k < cs.length) : rowsAfter s l (cs.take (k + 1)) = rowNext s (rowsAfter s l (cs.take k)) (rd cs k) := by
  rw [List.take_succ_eq_append_getElem h]
  unfold rowsAfter
  rw [List.foldl_append]
  simp [rd, h]
def dist (a b : ByteArray) : Int := rd (rowsAfter a (iota (a.size + 1)) (bytesOf b)) a.size

set_option maxHeartbeats 2000000 in
theorem distance_calls (a b : ByteArray) (w : World) (ha : a.size ≤ 999999) (hb : b.size ≤ 140737488351232) :
    Calls Try.prog 14 #[.string a, .string b] w fun e w' => e = .returned (.int .i64 (dist a b)) ∧ Below w.heap.size w w' := by
  have kb := fun W => print_bytes (P := Try.prog) 9 32 5 Try.underlying9 Try.underlying32 Try.underlying5 b W
  go_enter Try.func14, Try.ntmps14
  go_wp2_with (first | (go_at_call 15; refine (PBase.edit_Start.calls _ a _ _ (start_eq a ha)).mono ?_; rintro e w1 ⟨v, rfl, hr, hb1⟩; obtain ⟨A1, c1, rfl⟩ := Kd.R_slice hr; rw [iota_length] at hr ⊢; have HR := Aside0.mk hr; have HB1 := Aside0.mk hb1; clear hr hb1))
  have hby := bytes_reads w1 5 b (by omega)
  have HY := Aside0.mk hby
  have hbB : Below w.heap.size w (Lib.bytesWorld w1 5 b) := bytes_below HB1.out HB1.out.size 5 b
  have hrB : Kd.R (Kd.int .i64) 3 (Lib.bytesWorld w1 5 b) w.heap.size (fun _ => True) (.slice A1 (a.size + 1) c1) (iota (a.size + 1)) := Kd.R_below HR.out (bytes_below (Below.refl _ _) (Nat.le_refl _) 5 b)
  have hwx : w1.heap.size < (Lib.bytesWorld w1 5 b).heap.size := by rw [Lib.bytesWorld_size]; omega
  clear hby HR
  generalize Lib.bytesWorld w1 5 b = wx at *
  have HB := Aside0.mk hbB
  have HR := Aside0.mk hrB
  clear hbB hrB kb
  go_loopw [5, 13] (fun v5 v13 wr => ∃ (k : Nat) (A : Option Addr) (cp : Nat), v13 = .int .i64 k ∧ k ≤ b.size ∧ v5 = .slice A (a.size + 1) cp ∧
      Aside0 (Kd.R (Kd.int .i64) 3 wr w.heap.size (fun _ => True) (.slice A (a.size + 1) cp) (rowsAfter a (iota (a.size + 1)) ((bytesOf b).take k))) ∧ Aside0 (Below wx.heap.size wx wr))
    (fun _ v13 _ => b.size - (intOf v13).toNat)
  case atStart => exact ⟨0, A1, c1, rfl, by omega, rfl, HR, ⟨Below.refl _ _⟩⟩
  case round =>
    clear HR
    obtain ⟨k, A, cp, rfl, hk, rfl, HR, HX⟩ := hrel
    have hlen : (rowsAfter a (iota (a.size + 1)) ((bytesOf b).take k)).length = a.size + 1 := by rw [rowsAfter_length, iota_length]
    have HL := Aside0.mk hlen
    by_cases hlt : k < b.size
    · obtain ⟨_, ea, hx⟩ := HY.out.at_ (k : Int) (by omega) (by omega)
      cases ea
      rw [add_plain, Int.toNat_natCast] at hx
      replace hx := (HX.out.cell (p := ⟨w1.heap.size, k, none⟩) hwx).trans hx
      clear hlen
      go_wp2_with (first | (go_at_call 12; refine (next_any a A cp (a.size + 1) _ (rd (bytesOf b) k) _ HR.out rfl (by omega)).mono ?_; rintro e w2 ⟨A2, c2, rfl, hr2, hb2⟩))
      go_roundw
      case rel =>
        refine ⟨k + 1, A2, c2, by go_num, by omega, rfl, ⟨?_⟩, ⟨below_step HX.out hb2⟩⟩
        rw [rowsAfter_snoc _ _ _ k (by rw [bytesOf_length]; exact hlt)]
        exact Kd.R_lower hr2 (Nat.le_trans HB.out.size HX.out.size)
      case measure => simp [intOf]; omega
    · obtain rfl : k = b.size := by omega
      have h := Kd.R_reads' HR.out
      obtain ⟨ad, rfl, hx⟩ := Kd.at_int h.2.2 (a.size : Int) (by omega) (by omega)
      rw [Int.toNat_natCast] at hx
      have he : Aside0 (rd (rowsAfter a (iota (a.size + 1)) ((bytesOf b).take b.size)) a.size = dist a b) := ⟨by rw [List.take_of_length_le (by rw [bytesOf_length]; omega)]; rfl⟩
      rw [he.out] at hx
      have hd : decide ((b.size : Int) < (b.size : Int)) = false := by simp
      clear h hlen
      go_wp2
      go_ret
      exact ⟨rfl, below_step HB.out HX.out⟩

end Go.Proofs.Ytkogfbgeepgjgaa
