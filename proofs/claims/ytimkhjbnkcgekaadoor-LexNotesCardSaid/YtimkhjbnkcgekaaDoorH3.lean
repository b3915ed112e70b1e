/- style.mapped over style.Raise's closure: each byte goes through it. Its conditions: the captured variable's cell; a text of at most 2^47 bytes. -/
import Derived.Test.YtimkhjbnkcgekaaDoorH2
namespace Go.Proofs.YtimkhjbnkcgekaaDoor
open Go.RowKit Go.Proofs.YtimkhjbnkcgekaaDoorW.PrintWords Go.Proofs.YtimkhjbnkcgekaaDoorW.PrintLast Go.Proofs.YtimkhjbnkcgekaaDoorW.PrintMore
set_option linter.unusedVariables false
set_option maxRecDepth 100000

def ups (fold : Bool) (s : ByteArray) (k : Nat) : List Int := ((bytesOf s).take k).map (up fold) ++ (bytesOf s).drop k
theorem ups_length (fold : Bool) (s : ByteArray) (k : Nat) : (ups fold s k).length = s.size := by
  unfold ups; rw [List.length_append, List.length_map, List.length_take, List.length_drop, bytesOf_length]; omega
theorem ups_zero (fold : Bool) (s : ByteArray) : ups fold s 0 = bytesOf s := by simp [ups]
theorem ups_all (fold : Bool) (s : ByteArray) : ups fold s s.size = (bytesOf s).map (up fold) := by
  unfold ups; rw [List.take_of_length_le (by rw [bytesOf_length]; omega), List.drop_eq_nil_of_le (by rw [bytesOf_length]; omega), List.append_nil]
theorem ups_at (fold : Bool) (s : ByteArray) (k j : Nat) (hj : j < s.size) : (ups fold s k).getD j 0 = if j < k then up fold ((bytesOf s).getD j 0) else (bytesOf s).getD j 0 := by
  have hl := bytesOf_length s
  unfold ups
  simp only [List.getD_eq_getElem?_getD]
  by_cases h : j < k
  · rw [if_pos h, List.getElem?_append_left (by rw [List.length_map, List.length_take]; omega), List.getElem?_map, List.getElem?_take_of_lt h, List.getElem?_eq_getElem (by omega)]
    rfl
  · rw [if_neg h, List.getElem?_append_right (by rw [List.length_map, List.length_take]; omega), List.getElem?_drop, List.length_map, List.length_take]
    congr 2; omega
structure MInv (s : ByteArray) (fold : Bool) (gx gb : Nat) (w : World) (k : Nat) (wr : World) : Prop where
  hk : k ≤ s.size
  cells : ∀ j, j < s.size → wr.cell? ⟨gb, j, none⟩ = some (.int .u8 ((ups fold s k).getD j 0)) ∧ wr.frozen? ⟨gb, j, none⟩ = false
  hx : wr.cell? ⟨gx, 0, none⟩ = some (.bool fold)
  hB : Below w.heap.size w wr
theorem MInv.drewN {s : ByteArray} {fold : Bool} {gx gb : Nat} {w : World} {k : Nat} {wr : World} (h : MInv s fold gx gb w k wr) (n : Nat) : MInv s fold gx gb w k (wr.drewN n) :=
  ⟨h.hk, fun j hj => by simpa using h.cells j hj, by simpa using h.hx, pw_below_drewN h.hB n⟩
theorem MInv.next {s : ByteArray} {fold : Bool} {gx gb : Nat} {w : World} {k : Nat} {wr : World} (h : MInv s fold gx gb w k wr) (hlt : k < s.size) (hg : w.heap.size ≤ gb) (hne : gx < w.heap.size) :
    MInv s fold gx gb w (k + 1) (wr.setCell ⟨gb, k, none⟩ (.int .u8 (up fold ((bytesOf s).getD k 0)))) := by
  refine ⟨hlt, fun j hj => ⟨?_, ?_⟩, ?_, below_set h.hB hg⟩
  · rw [ups_at fold s (k + 1) j hj]
    by_cases e : j = k
    · subst e
      rw [if_pos (by omega)]
      exact World.cell?_setCell_same _ _ _ (by rw [(h.cells j hj).1])
    · rw [World.cell?_setCell_other _ _ _ _ (fun q => e (by injection q with _ q; omega)), (h.cells j hj).1, ups_at fold s k j hj]
      by_cases l : j < k
      · rw [if_pos l, if_pos (by omega)]
      · rw [if_neg l, if_neg (by omega)]
  · rw [World.frozen?_setCell]; exact (h.cells j hj).2
  · rw [World.cell?_setCell_other _ _ _ _ (fun q => by injection q with q; omega)]; exact h.hx
theorem byte_bounds (s : ByteArray) (k : Nat) : 0 ≤ (bytesOf s).getD k 0 ∧ (bytesOf s).getD k 0 ≤ 255 := by
  unfold bytesOf
  simp only [List.getD_eq_getElem?_getD, List.getElem?_map]
  cases s.data.toList[k]? with
  | none => simp
  | some b => have := b.toNat_lt; simp; omega
set_option maxHeartbeats 1000000 in
theorem mapped_calls (s : ByteArray) (fold : Bool) (gx : Nat) (w : World) (hx : w.cell? ⟨gx, 0, none⟩ = some (.bool fold)) (hs : s.size ≤ 140737488351232) :
    Calls Tryd.prog 44 #[.string s, .func (.func 45) #[] #[.pointer (some ⟨gx, 0, none⟩)]] w fun e w' => e = .returned (.string (strOfNums ((bytesOf s).map (up fold)))) ∧ Below w.heap.size w w' := by
  have kb := fun W => print_bytes (P := Tryd.prog) 9 43 5 Tryd.underlying9 Tryd.underlying43 Tryd.underlying5 s W
  have hgx : gx < w.heap.size := World.block_lt_of_cell? w _ hx
  have h0 : MInv s fold gx w.heap.size w 0 (Lib.bytesWorld w 5 s) := by
    refine ⟨by omega, fun j hj => ⟨?_, ?_⟩, (Lib.bytesWorld_old w 5 s _ hgx).trans hx, bytes_below (Below.refl _ _) (Nat.le_refl _) 5 s⟩
    · have e := (bytes_reads w 5 s (by omega)).at_ (j : Int) (by omega) (by omega)
      obtain ⟨_, ea, e⟩ := e
      cases ea
      rw [add_plain, Int.toNat_natCast] at e
      rw [ups_zero]
      exact e
    · have e := Lib.bytesWorld_at_new w 5 s
      have hsz : s.size ≤ (Lib.bytesCells w 5 s).size := by unfold Lib.bytesCells; simp
      simp [World.frozen?, e]
      omega
  have HI := Aside0.mk h0
  have HS := Aside0.mk hgx
  clear h0 hx hgx
  go_enter Tryd.func44, Tryd.ntmps44
  go_wp2_with fail
  clear kb
  generalize Lib.bytesWorld w 5 s = wx at HI ⊢
  go_loopw [12] (fun v12 wr => ∃ k : Nat, v12 = .int .i64 k ∧ Aside0 (MInv s fold gx w.heap.size w k wr)) (fun v12 _ => s.size - (intOf v12).toNat)
  case atStart => exact ⟨0, rfl, HI⟩
  case round =>
    clear HI
    obtain ⟨k, rfl, HI⟩ := hrel
    have hk := HI.out.hk
    by_cases hlt : k < s.size
    · have hd : decide ((k : Int) < (s.size : Int)) = true := by simp; omega
      obtain ⟨hc, hf⟩ := HI.out.cells k hlt
      have hxx := HI.out.hx
      rw [ups_at fold s k k hlt, if_neg (by omega)] at hc
      obtain ⟨b0, b1⟩ := byte_bounds s k
      obtain ⟨c, hcc⟩ : ∃ c, c = (bytesOf s).getD k 0 := ⟨_, rfl⟩
      rw [← hcc] at hc b0 b1
      have HC := Aside0.mk hcc
      clear hcc
      go_wp2_with (first | (go_at_call 45; refine (raise1_calls c fold gx _ ?_ b0 b1).mono ?_; (first | exact hxx | simp [*]); rintro e w' ⟨rfl, ⟨nq, rfl⟩⟩))
      go_roundw
      case rel =>
        refine ⟨k + 1, by go_num, ⟨?_⟩⟩
        rw [HC.out]
        exact MInv.next (HI.out.drewN nq) hlt (Nat.le_refl _) HS.out
      case measure => simp [intOf]; omega
    · obtain rfl : k = s.size := by omega
      have hd : decide ((s.size : Int) < (s.size : Int)) = false := by simp
      have hr : ReadsInt wr .u8 (some ⟨w.heap.size, 0, none⟩) s.size ((bytesOf s).map (up fold)) := by
        refine ⟨by rw [List.length_map, bytesOf_length], by omega, fun _ => ⟨_, rfl, fun j hj => ?_⟩⟩
        rw [add_plain, (HI.out.cells j hj).1, ups_all]
      have ks := fun cp => string_of_reads (P := Tryd.prog) (src := 43) (dst := 9) (e := 5) (c := cp) Tryd.underlying43 Tryd.underlying5 Tryd.underlying9 hr
      clear hr
      go_wp2
      go_ret
      exact ⟨rfl, HI.out.hB⟩
end Go.Proofs.YtimkhjbnkcgekaaDoor
