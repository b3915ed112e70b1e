import Derived.Test.YtkogfbgeepgjgaaPBasex0
namespace Go.Proofs.Ytkogfbgeepgjgaa
open Go.RowKit Go.Proofs.YtkogfbgeepgjgaaW.PrintWords Go.Proofs.YtkogfbgeepgjgaaW.PrintLast Go.Proofs.YtkogfbgeepgjgaaW.PrintMore

def chg (s : ByteArray) (l : List Int) (c i : Int) : Int := if bt s i = c then rd l i else wrap64 (rd l i + 1)

set_option maxHeartbeats 400000 in
theorem next1_calls (s : ByteArray) (c i : Int) (ad : Addr) (n cap : Nat) (l : List Int) (b3 b4 b5 : Nat) (w : World)
    (c3 : w.cell? ⟨b3, 0, none⟩ = some (.string s)) (c5 : w.cell? ⟨b5, 0, none⟩ = some (.int .u8 c)) (c4 : w.cell? ⟨b4, 0, none⟩ = some (.slice (some ad) n cap))
    (hx : w.cell? (ad.add i.toNat) = some (.int .i64 (rd l i))) (h0 : 0 ≤ i) (h1 : i < (s.size : Int)) (hl : i < (n : Int)) :
    Calls Try.prog 20 #[.int .i64 i, .pointer (some ⟨b3, 0, none⟩), .pointer (some ⟨b5, 0, none⟩), .pointer (some ⟨b4, 0, none⟩)] w fun e w' =>
      e = .returned (.int .i64 (chg s l c i)) ∧ Drawn0 w w' := by
  have hb := bt_at s i
  by_cases hc : bt s i = c
  · have hd : (bt s i == c) = true := by simpa using hc
    have hp : Aside0 (chg s l c i = rd l i) := ⟨if_pos hc⟩
    clear hc
    go_enter Try.func20, Try.ntmps20
    go_wp2
    go_quiet (fail)
    go_wp2
    go_ret
    exact ⟨by rw [hp.out]; rfl, ⟨_, rfl⟩⟩
  · have hd : (bt s i == c) = false := by simpa using hc
    have hp : Aside0 (chg s l c i = wrap64 (rd l i + 1)) := ⟨if_neg hc⟩
    clear hc
    go_enter Try.func20, Try.ntmps20
    go_wp2
    go_quiet (fail)
    go_wp2
    go_ret
    exact ⟨by rw [hp.out]; rfl, ⟨_, rfl⟩⟩
end Go.Proofs.Ytkogfbgeepgjgaa
