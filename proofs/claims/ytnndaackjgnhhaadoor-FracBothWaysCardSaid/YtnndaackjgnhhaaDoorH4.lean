/- frac.Read's closure: a number of a text. Its conditions: the listed variables as they were laid; the captured test's block. -/
import Derived.Test.YtnndaackjgnhhaaDoorH3
import Derived.Test.YtnndaackjgnhhaaDoorPTx
namespace Go.Proofs.YtnndaackjgnhhaaDoor
open Go Go.RowKit Flat Go.Proofs.YtnndaackjgnhhaaDoor.Sq Go.Proofs.YtnndaackjgnhhaaDoor.PB Go.Proofs.YtnndaackjgnhhaaDoor.PT Go.Proofs.YtnndaackjgnhhaaDoorW.PrintWords Go.Proofs.YtnndaackjgnhhaaDoorW.PrintLast Go.Proofs.YtnndaackjgnhhaaDoorW.PrintMore
attribute [local go_sem] max2_int min2_int max_two min_two max_three min_three max_four min_four   -- for this text's walks alone
set_option linter.unusedVariables false
theorem parse_ok (s : ByteArray) (hs : s.size ≤ 281474976710656) (v : Int) (h : parsed s = (v, true)) (w : World) (hG : Glob [3, 4] w) :
    Calls Tryd.prog 41 #[.string s, .int .i64 10, .int .i64 64] w fun e w' => e = .returned (.tuple #[.int .i64 v, .nilIface]) ∧ Below w.heap.size w w' := by
  refine (parse_calls s hs w hG).mono ?_
  rintro e w' ⟨ev, rfl, hev, hb⟩
  rw [h] at hev ⊢
  rcases hev with ⟨_, rfl⟩ | ⟨h, _⟩
  · exact ⟨rfl, hb⟩
  · cases h
theorem parse_bad (s : ByteArray) (hs : s.size ≤ 281474976710656) (v : Int) (h : parsed s = (v, false)) (w : World) (hG : Glob [3, 4] w) :
    Calls Tryd.prog 41 #[.string s, .int .i64 10, .int .i64 64] w fun e w' => ∃ te pe, e = .returned (.tuple #[.int .i64 v, .iface te pe]) ∧ Below w.heap.size w w' := by
  refine (parse_calls s hs w hG).mono ?_
  rintro e w' ⟨ev, rfl, hev, hb⟩
  rw [h] at hev ⊢
  rcases hev with ⟨h, _⟩ | ⟨_, te, pe, rfl⟩
  · cases h
  · exact ⟨te, pe, rfl, hb⟩
structure Read1 (go : Nat) (w : World) (ok : Bool) (w' : World) : Prop where
  ho : w'.heap[go]? = some (.cells #[.bool ok] 4 (0, 0))
  hk : ∀ g o, g ≠ go → w.heap[g]? = some o → w'.heap[g]? = some o
  hB : ∀ w0 : World, w0.heap.size ≤ go → Below w0.heap.size w0 w → Below w0.heap.size w0 w'
theorem Read1.step {go : Nat} {w w1 : World} {ok ok' : Bool} (ho : w.heap[go]? = some (.cells #[.bool ok] 4 (0, 0))) (hb : Below w.heap.size w w1) : Read1 go w ok' (w1.setCell ⟨go, 0, none⟩ (.bool ok')) :=
  ⟨p1_0 (blk_below ho hb), fun g o hg h => (Below.heap_setCell w1 ⟨go, 0, none⟩ _ g hg).trans (blk_below h hb), fun w0 h0 h1 => below_set (below_step h1 hb) h0⟩
set_option maxHeartbeats 4000000 in
set_option maxRecDepth 100000 in
theorem number_calls (s : ByteArray) (hs : s.size ≤ 281474976710656) (v : Int) (b ok : Bool) (hp : parsed s = (v, b)) (go : Nat) (w : World) (hG : Glob [3, 4] w) (ho : w.heap[go]? = some (.cells #[.bool ok] 4 (0, 0))) :
    Calls Tryd.prog 40 #[.string s, .pointer (some ⟨go, 0, none⟩)] w fun e w' => e = .returned (.int .i64 v) ∧ Read1 go w (ok && b) w' := by
  have HP := Aside0.mk hp
  have HO := Aside0.mk ho
  have HG := Aside0.mk hG
  clear hp ho hG
  go_enter Tryd.func40, Tryd.ntmps40
  cases b with
  | true =>
    go_wp2_with (first | (go_at_call 41; refine (parse_ok s hs v HP.out _ (Glob.use HG.out (by decide) (bl (Below.refl _ _)))).mono ?_; rintro e w1 ⟨rfl, hb⟩; have HB := Aside0.mk hb; have c1 : w1.cell? ⟨go, 0, none⟩ = some (.bool ok) := (blk_cell (blk_below (kp HO.out) hb) 0).trans rfl; have f1 := blk_frozen (blk_below (kp HO.out) hb) 0; clear hb))
    all_goals go_ret
    all_goals cases ok <;> first | exact ⟨rfl, Read1.step HO.out HB.out⟩ | (exfalso; simp_all; done)
  | false =>
    go_wp2_with (first | (go_at_call 41; refine (parse_bad s hs v HP.out _ (Glob.use HG.out (by decide) (bl (Below.refl _ _)))).mono ?_; rintro e w1 ⟨te, pe, rfl, hb⟩; have HB := Aside0.mk hb; have c1 : w1.cell? ⟨go, 0, none⟩ = some (.bool ok) := (blk_cell (blk_below (kp HO.out) hb) 0).trans rfl; have f1 := blk_frozen (blk_below (kp HO.out) hb) 0; clear hb))
    all_goals go_ret
    all_goals cases ok <;> first | exact ⟨rfl, Read1.step HO.out HB.out⟩ | (exfalso; simp_all; done)
end Go.Proofs.YtnndaackjgnhhaaDoor
