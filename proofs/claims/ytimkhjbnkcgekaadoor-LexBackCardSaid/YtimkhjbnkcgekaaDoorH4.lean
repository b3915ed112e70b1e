/- style.Raise in the print's form, over style.Of and style.mapped. Its conditions: the listed variable as it was laid; 'f' tells of a text of at most 2^47 bytes. -/
import Derived.Test.YtimkhjbnkcgekaaDoorH3
namespace Go.Proofs.YtimkhjbnkcgekaaDoor
open Go.RowKit Go.Proofs.YtimkhjbnkcgekaaDoorW.PrintWords Go.Proofs.YtimkhjbnkcgekaaDoorW.PrintLast Go.Proofs.YtimkhjbnkcgekaaDoorW.PrintMore
set_option linter.unusedVariables false
set_option maxRecDepth 100000
def style_Raise.f (a0 : Int) (a1 : ByteArray) : Option ByteArray := if a1.size ≤ 140737488351232 then (style_Of.f a0).bind fun x => some (strOfNums ((bytesOf a1).map (up x.1))) else none
set_option maxHeartbeats 1000000 in
theorem style_Raise.calls (a0 : Int) (a1 : ByteArray) (r : ByteArray) (w : World) (hG : Glob [0] w) (h : style_Raise.f a0 a1 = some r) :
    Calls Tryd.prog 33 #[.int .i64 a0, .string a1] w fun e w' => e = .returned (.string r) ∧ Below w.heap.size w w' := by
  have hu25 := Tryd.underlying38
  unfold style_Raise.f at h
  by_cases hs : a1.size ≤ 140737488351232
  · rw [if_pos hs] at h
    obtain ⟨⟨r1, r2, r3, r4, r5, r6, r7⟩, hO, h⟩ := Option.bind_eq_some_iff.mp h
    obtain rfl := Option.some.inj h
    clear h
    have HO := Aside0.mk hO
    clear hO
    go_enter Tryd.func33, Tryd.ntmps33
    go_wp2_with (first | (go_at_call 25; refine (style_Of.calls a0 r1 r2 r3 r4 r5 r6 r7 _ hG HO.out).mono ?_; rintro e w1 ⟨rfl, hb1⟩) | ((with_reducible refine gate_dst (N := 5) rfl ?_); refine box_event ?hg (N := 5) ?hd (cs := #[.bool false, .int .u8 0, .int .u8 0, .int .u8 0, .int .u8 0, .int .u8 0]) (t := 38) ?hr ?_; (case hd => rfl); (case hg => rfl); (case hr => first | (go_simp; done) | (go_simp; rfl)); intro gb hg w3 hbox hb; have hb2 := below_step hb1 hb; have ge : w.heap.size ≤ gb := (by have := hb1.size; omega); clear hg; have z0 : w3.cell? ⟨gb, 0, none⟩ = some (.bool false) := (blk_cell hbox 0).trans rfl; have f0 := blk_frozen hbox 0; have z1 : w3.cell? ⟨gb, 1, none⟩ = some (.int .u8 0) := (blk_cell hbox 1).trans rfl; have f1 := blk_frozen hbox 1; have z2 : w3.cell? ⟨gb, 2, none⟩ = some (.int .u8 0) := (blk_cell hbox 2).trans rfl; have f2 := blk_frozen hbox 2; have z3 : w3.cell? ⟨gb, 3, none⟩ = some (.int .u8 0) := (blk_cell hbox 3).trans rfl; have f3 := blk_frozen hbox 3; have z4 : w3.cell? ⟨gb, 4, none⟩ = some (.int .u8 0) := (blk_cell hbox 4).trans rfl; have f4 := blk_frozen hbox 4; have z5 : w3.cell? ⟨gb, 5, none⟩ = some (.int .u8 0) := (blk_cell hbox 5).trans rfl; have f5 := blk_frozen hbox 5) | (go_at_call 44; refine (mapped_calls a1 r1 gb _ ((blk_cell (blk_put (cs' := #[.bool r1, .int .u8 r2, .int .u8 r3, .int .u8 r4, .int .u8 r5, .int .u8 r6]) (blk_put (cs' := #[.bool r1, .int .u8 r2, .int .u8 r3, .int .u8 r4, .int .u8 r5, .int .u8 0]) (blk_put (cs' := #[.bool r1, .int .u8 r2, .int .u8 r3, .int .u8 r4, .int .u8 0, .int .u8 0]) (blk_put (cs' := #[.bool r1, .int .u8 r2, .int .u8 r3, .int .u8 0, .int .u8 0, .int .u8 0]) (blk_put (cs' := #[.bool r1, .int .u8 r2, .int .u8 0, .int .u8 0, .int .u8 0, .int .u8 0]) (blk_put (cs' := #[.bool r1, .int .u8 0, .int .u8 0, .int .u8 0, .int .u8 0, .int .u8 0]) hbox 0 _ rfl) 1 _ rfl) 2 _ rfl) 3 _ rfl) 4 _ rfl) 5 _ rfl) 0).trans rfl) hs).mono ?_; rintro e w4 ⟨rfl, hb4⟩))
    go_ret
    exact ⟨rfl, below_step (below_set (below_set (below_set (below_set (below_set (below_set hb2 ge) ge) ge) ge) ge) ge) hb4⟩
  · rw [if_neg hs] at h; cases h
end Go.Proofs.YtimkhjbnkcgekaaDoor
