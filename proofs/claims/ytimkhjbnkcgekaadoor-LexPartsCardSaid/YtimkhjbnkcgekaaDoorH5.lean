/- style.Plain in the print's form. Its conditions: the listed variable as it was laid; 'f' tells of a text of at most 2^47 bytes. -/
import Derived.Test.YtimkhjbnkcgekaaDoorH3
namespace Go.Proofs.YtimkhjbnkcgekaaDoor
open Go.RowKit Go.Proofs.YtimkhjbnkcgekaaDoorW.PrintWords Go.Proofs.YtimkhjbnkcgekaaDoorW.PrintLast Go.Proofs.YtimkhjbnkcgekaaDoorW.PrintMore
set_option linter.unusedVariables false
set_option maxRecDepth 100000
def okb (o c b : Int) : Bool := decide (32 ≤ b) && decide (b ≤ 126) && b != o && b != c
def style_Plain.f (a0 : Int) (a1 : ByteArray) : Option Bool := if a1.size ≤ 140737488351232 then (style_Of.f a0).bind fun x => some ((bytesOf a1).all (okb x.2.2.2.2.1 x.2.2.2.2.2.1) && x.2.2.2.2.1 != 0) else none
theorem all_take {p : Int → Bool} {l : List Int} {k : Nat} (h : (l.take k).all p = true) (hk : k < l.length) (hp : p (l.getD k 0) = true) : (l.take (k + 1)).all p = true := by
  rw [List.take_succ_eq_append_getElem hk, List.all_append, h]
  rw [List.getD_eq_getElem?_getD, List.getElem?_eq_getElem hk] at hp
  simpa using hp
theorem all_not {p : Int → Bool} {l : List Int} {k : Nat} (hk : k < l.length) (hp : p (l.getD k 0) = false) : l.all p = false := by
  rw [List.all_eq_false]
  refine ⟨l[k], List.getElem_mem hk, ?_⟩
  rw [List.getD_eq_getElem?_getD, List.getElem?_eq_getElem hk] at hp
  simpa using hp
set_option maxHeartbeats 2000000 in
theorem style_Plain.calls (a0 : Int) (a1 : ByteArray) (r : Bool) (w : World) (hG : Glob [0] w) (h : style_Plain.f a0 a1 = some r) :
    Calls Tryd.prog 36 #[.int .i64 a0, .string a1] w fun e w' => e = .returned (.bool r) ∧ Below w.heap.size w w' := by
  have hu25 := Tryd.underlying38
  unfold style_Plain.f at h
  by_cases hs : a1.size ≤ 140737488351232
  · rw [if_pos hs] at h
    obtain ⟨⟨r1, r2, r3, r4, r5, r6, r7⟩, hO, h⟩ := Option.bind_eq_some_iff.mp h
    obtain rfl := Option.some.inj h
    clear h
    have HO := Aside0.mk hO
    clear hO
    obtain ⟨R, hR⟩ : ∃ R, R = ((bytesOf a1).all (okb r5 r6) && r5 != 0) := ⟨_, rfl⟩
    show Calls Tryd.prog 36 #[.int .i64 a0, .string a1] w fun e w' => e = .returned (.bool ((bytesOf a1).all (okb r5 r6) && r5 != 0)) ∧ Below w.heap.size w w'
    rw [← hR]
    have HR := Aside0.mk hR
    clear hR
    go_enter Tryd.func36, Tryd.ntmps36
    go_upto_region 2 with (first | (go_at_call 25; refine (style_Of.calls a0 r1 r2 r3 r4 r5 r6 r7 _ hG HO.out).mono ?_; rintro e w1 ⟨rfl, hb1⟩) | ((with_reducible refine gate_dst (N := 5) rfl ?_); refine box_event ?hg (N := 5) ?hd (cs := #[.bool false, .int .u8 0, .int .u8 0, .int .u8 0, .int .u8 0, .int .u8 0]) (t := 38) ?hr ?_; (case hd => rfl); (case hg => rfl); (case hr => first | (go_simp; done) | (go_simp; rfl)); intro gb hg w3 hbox hb; have hb2 := below_step hb1 hb; have ge : w.heap.size ≤ gb := (by have := hb1.size; omega); clear hg; have z0 : w3.cell? ⟨gb, 0, none⟩ = some (.bool false) := (blk_cell hbox 0).trans rfl; have f0 := blk_frozen hbox 0; have z1 : w3.cell? ⟨gb, 1, none⟩ = some (.int .u8 0) := (blk_cell hbox 1).trans rfl; have f1 := blk_frozen hbox 1; have z2 : w3.cell? ⟨gb, 2, none⟩ = some (.int .u8 0) := (blk_cell hbox 2).trans rfl; have f2 := blk_frozen hbox 2; have z3 : w3.cell? ⟨gb, 3, none⟩ = some (.int .u8 0) := (blk_cell hbox 3).trans rfl; have f3 := blk_frozen hbox 3; have z4 : w3.cell? ⟨gb, 4, none⟩ = some (.int .u8 0) := (blk_cell hbox 4).trans rfl; have f4 := blk_frozen hbox 4; have z5 : w3.cell? ⟨gb, 5, none⟩ = some (.int .u8 0) := (blk_cell hbox 5).trans rfl; have f5 := blk_frozen hbox 5))
    have hbW : ((World.setCell (World.setCell (World.setCell (World.setCell (World.setCell (World.setCell w3 ⟨gb, 0, none⟩ (.bool r1)) ⟨gb, 1, none⟩ (.int .u8 r2)) ⟨gb, 2, none⟩ (.int .u8 r3)) ⟨gb, 3, none⟩ (.int .u8 r4)) ⟨gb, 4, none⟩ (.int .u8 r5)) ⟨gb, 5, none⟩ (.int .u8 r6))).heap[gb]? = some (.cells #[.bool r1, .int .u8 r2, .int .u8 r3, .int .u8 r4, .int .u8 r5, .int .u8 r6] 38 (0, 0)) := (blk_put (cs' := #[.bool r1, .int .u8 r2, .int .u8 r3, .int .u8 r4, .int .u8 r5, .int .u8 r6]) (blk_put (cs' := #[.bool r1, .int .u8 r2, .int .u8 r3, .int .u8 r4, .int .u8 r5, .int .u8 0]) (blk_put (cs' := #[.bool r1, .int .u8 r2, .int .u8 r3, .int .u8 r4, .int .u8 0, .int .u8 0]) (blk_put (cs' := #[.bool r1, .int .u8 r2, .int .u8 r3, .int .u8 0, .int .u8 0, .int .u8 0]) (blk_put (cs' := #[.bool r1, .int .u8 r2, .int .u8 0, .int .u8 0, .int .u8 0, .int .u8 0]) (blk_put (cs' := #[.bool r1, .int .u8 0, .int .u8 0, .int .u8 0, .int .u8 0, .int .u8 0]) hbox 0 _ rfl) 1 _ rfl) 2 _ rfl) 3 _ rfl) 4 _ rfl) 5 _ rfl)
    have hB2 : Below w.heap.size w (World.setCell (World.setCell (World.setCell (World.setCell (World.setCell (World.setCell w3 ⟨gb, 0, none⟩ (.bool r1)) ⟨gb, 1, none⟩ (.int .u8 r2)) ⟨gb, 2, none⟩ (.int .u8 r3)) ⟨gb, 3, none⟩ (.int .u8 r4)) ⟨gb, 4, none⟩ (.int .u8 r5)) ⟨gb, 5, none⟩ (.int .u8 r6)) := (below_set (below_set (below_set (below_set (below_set (below_set hb2 ge) ge) ge) ge) ge) ge)
    clear hb hb1 hb2 hbox z0 f0 z1 f1 z2 f2 z3 f3 z4 f4 z5 f5
    generalize (World.setCell (World.setCell (World.setCell (World.setCell (World.setCell (World.setCell w3 ⟨gb, 0, none⟩ (.bool r1)) ⟨gb, 1, none⟩ (.int .u8 r2)) ⟨gb, 2, none⟩ (.int .u8 r3)) ⟨gb, 3, none⟩ (.int .u8 r4)) ⟨gb, 4, none⟩ (.int .u8 r5)) ⟨gb, 5, none⟩ (.int .u8 r6)) = W at hbW hB2 ⊢
    have kb := fun W => print_bytes (P := Tryd.prog) 9 43 5 Tryd.underlying9 Tryd.underlying43 Tryd.underlying5 a1 W
    go_wp2_with fail
    have hY := bytes_reads W 5 a1 (by omega)
    have hBx : Below w.heap.size w (Lib.bytesWorld W 5 a1) := bytes_below hB2 hB2.size 5 a1
    have gl := blk_lt hbW
    have hbx := (Lib.bytesWorld_at_old W 5 a1 gb gl).trans hbW
    have hwl : W.heap.size < (Lib.bytesWorld W 5 a1).heap.size := by rw [Lib.bytesWorld_size]; omega
    clear kb
    generalize hwx : Lib.bytesWorld W 5 a1 = wx at *
    have HY := Aside0.mk hY
    clear hY hwx hB2 hbW
    have x4 : wx.cell? ⟨gb, 4, none⟩ = some (.int .u8 r5) := (blk_cell hbx 4).trans rfl
    have x5 : wx.cell? ⟨gb, 5, none⟩ = some (.int .u8 r6) := (blk_cell hbx 5).trans rfl
    clear hbx
    go_loopw [17] (fun v17 wr => ∃ k : Nat, v17 = .int .i64 k ∧ Aside0 (k ≤ a1.size ∧ ((bytesOf a1).take k).all (okb r5 r6) = true ∧ Below wx.heap.size wx wr ∧ wr.cell? ⟨gb, 4, none⟩ = some (.int .u8 r5) ∧ wr.cell? ⟨gb, 5, none⟩ = some (.int .u8 r6))) (fun v17 _ => a1.size - (intOf v17).toNat)
    case atStart => exact ⟨0, rfl, ⟨by omega, by simp, Below.refl _ _, x4, x5⟩⟩
    case round =>
      clear x4 x5
      obtain ⟨k, rfl, HI⟩ := hrel
      have hk := HI.out.1
      have x4 := HI.out.2.2.2.1
      have x5 := HI.out.2.2.2.2
      by_cases hlt : k < a1.size
      · have hd : decide ((k : Int) < (a1.size : Int)) = true := by simp; omega
        obtain ⟨_, ea, hx⟩ := HY.out.at_ (k : Int) (by omega) (by omega)
        cases ea
        rw [add_plain, Int.toNat_natCast] at hx
        replace hx := (HI.out.2.2.1.cell (p := ⟨W.heap.size, k, none⟩) hwl).trans hx
        have hl : k < (bytesOf a1).length := by rw [bytesOf_length]; exact hlt
        obtain ⟨c, hcc⟩ : ∃ c, c = (bytesOf a1).getD k 0 := ⟨_, rfl⟩
        replace hx : wr.cell? ⟨W.heap.size, k, none⟩ = some (.int .u8 c) := by rw [hcc]; exact hx
        have HC := Aside0.mk hcc
        clear hcc
        have bad : okb r5 r6 c = false → R = false := fun h => by rw [HR.out, all_not hl (by rw [← HC.out]; exact h)]; rfl
        by_cases q1 : c < 32
        · have d1 : decide (c < 32) = true := decide_eq_true q1
          have hb := Aside0.mk (bad (by simp [okb]; omega))
          clear bad
          go_wp2
          go_ret
          exact ⟨by rw [hb.out]; rfl, below_step hBx HI.out.2.2.1⟩
        · have d1 : decide (c < 32) = false := decide_eq_false q1
          by_cases q2 : c > 126
          · have d2 : decide (c > 126) = true := decide_eq_true q2
            have d2' : decide (126 < c) = true := decide_eq_true q2
            have hb := Aside0.mk (bad (by simp [okb]; omega))
            clear bad
            go_wp2
            go_ret
            exact ⟨by rw [hb.out]; rfl, below_step hBx HI.out.2.2.1⟩
          · have d2 : decide (c > 126) = false := decide_eq_false q2
            have d2' : decide (126 < c) = false := decide_eq_false q2
            by_cases q3 : c = r5
            · have d3 : (c == r5) = true := beq_iff_eq.mpr q3
              have hb := Aside0.mk (bad (by simp [okb, q3]))
              clear bad q3
              go_wp2
              go_ret
              exact ⟨by rw [hb.out]; rfl, below_step hBx HI.out.2.2.1⟩
            · have d3 : (c == r5) = false := beq_eq_false_iff_ne.mpr q3
              by_cases q4 : c = r6
              · have d4 : (c == r6) = true := beq_iff_eq.mpr q4
                have hb := Aside0.mk (bad (by simp [okb, q4]))
                clear bad q4
                go_wp2
                go_ret
                exact ⟨by rw [hb.out]; rfl, below_step hBx HI.out.2.2.1⟩
              · have d4 : (c == r6) = false := beq_eq_false_iff_ne.mpr q4
                have good := Aside0.mk (show okb r5 r6 c = true by simp [okb, q3, q4]; omega)
                clear bad
                go_wp2
                go_roundw
                case rel => exact ⟨k + 1, by go_num, ⟨by omega, all_take HI.out.2.1 hl (by rw [← HC.out]; exact good.out), HI.out.2.2.1, x4, x5⟩⟩
                case measure => simp [intOf]; omega
      · obtain rfl : k = a1.size := by omega
        have hd : decide ((a1.size : Int) < (a1.size : Int)) = false := by simp
        have ha := HI.out.2.1
        rw [List.take_of_length_le (by rw [bytesOf_length]; omega)] at ha
        have hb : Aside0 (R = (r5 != 0)) := ⟨by rw [HR.out, ha]; simp⟩
        go_wp2
        go_ret
        exact ⟨by rw [hb.out]; rfl, below_step hBx HI.out.2.2.1⟩
  · rw [if_neg hs] at h; cases h
end Go.Proofs.YtimkhjbnkcgekaaDoor
