/- strings.IndexByte in the print's form; style.Raise's closure, and style.mapped over it. Their conditions stand in each theorem. -/
import Derived.Test.YtimkhjbnkcgekaaDoorH1
import Derived.Test.YtimkhjbnkcgekaaDoorShelf
namespace Go.Proofs.YtimkhjbnkcgekaaDoor
open Go.RowKit Go.Proofs.YtimkhjbnkcgekaaDoorW.PrintWords Go.Proofs.YtimkhjbnkcgekaaDoorW.PrintLast Go.Proofs.YtimkhjbnkcgekaaDoorW.PrintMore
set_option linter.unusedVariables false
set_option maxRecDepth 100000

def strings_IndexByte.f (a0 : ByteArray) (a1 : Int) : Option Int := some (Lib.indexByte a0.data.toList a1.toNat.toUInt8)
theorem strings_IndexByte.calls (a0 : ByteArray) (a1 : Int) (r : Int) (w : World) (h : strings_IndexByte.f a0 a1 = some r) :
    Calls Tryd.prog 35 #[.string a0, .int .u8 a1] w fun e w' => e = .returned (.int .i64 r) ∧ Drawn0 w w' := by
  refine (Tryd.strings_IndexByte a0 a1 w).mono ?_
  rintro e w' ⟨rfl, rfl⟩
  exact ⟨by rw [Option.some.inj h], Drawn0.refl _⟩

def up (fold : Bool) (c : Int) : Int := if fold = true ∧ 97 ≤ c ∧ c ≤ 122 then c - 32 else c
theorem up_bounds (fold : Bool) (c : Int) (h0 : 0 ≤ c) (h1 : c ≤ 255) : 0 ≤ up fold c ∧ up fold c ≤ 255 := by unfold up; split <;> omega
set_option maxHeartbeats 400000 in
theorem raise1_calls (c : Int) (fold : Bool) (gx : Nat) (w : World) (hx : w.cell? ⟨gx, 0, none⟩ = some (.bool fold)) (h0 : 0 ≤ c) (h1 : c ≤ 255) :
    Calls Tryd.prog 45 #[.int .u8 c, .pointer (some ⟨gx, 0, none⟩)] w fun e w' => e = .returned (.int .u8 (up fold c)) ∧ Drawn0 w w' := by
  have hu25 := Tryd.underlying38
  cases fold with
  | false =>
    go_enter Tryd.func45, Tryd.ntmps45
    go_wp2
    go_ret
    exact ⟨by simp [up], Drawn0.refl _⟩
  | true =>
    by_cases l : 97 ≤ c
    · have b1 : decide (97 ≤ c) = true := decide_eq_true l
      by_cases m : c ≤ 122
      · have b2 : decide (c ≤ 122) = true := decide_eq_true m
        have hp : Aside0 (up true c = c - 97 + 65) := ⟨by
          unfold up
          rw [if_pos ⟨rfl, l, m⟩]
          omega⟩
        go_enter Tryd.func45, Tryd.ntmps45
        go_wp2
        go_ret
        exact ⟨by rw [hp.out]; rfl, Drawn0.refl _⟩
      · have b2 : decide (c ≤ 122) = false := decide_eq_false m
        have hp : Aside0 (up true c = c) := ⟨if_neg (by omega)⟩
        go_enter Tryd.func45, Tryd.ntmps45
        go_wp2
        go_ret
        exact ⟨by rw [hp.out]; rfl, Drawn0.refl _⟩
    · have b1 : decide (97 ≤ c) = false := decide_eq_false l
      have hp : Aside0 (up true c = c) := ⟨if_neg (by omega)⟩
      go_enter Tryd.func45, Tryd.ntmps45
      go_wp2
      go_ret
      exact ⟨by rw [hp.out]; rfl, Drawn0.refl _⟩
end Go.Proofs.YtimkhjbnkcgekaaDoor
