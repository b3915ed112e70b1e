import Derived.Test.YtkogfbgeepgjgaaH4
namespace Go.Proofs.Ytkogfbgeepgjgaa
set_option linter.unusedVariables false
open Go.RowKit Go.Proofs.YtkogfbgeepgjgaaW.PrintWords Go.Proofs.YtkogfbgeepgjgaaW.PrintLast Go.Proofs.YtkogfbgeepgjgaaW.PrintMore

set_option maxHeartbeats 400000 in
theorem next_bad (s : ByteArray) (A : Option Addr) (cap n : Nat) (c : Int) (w : World) (h : ((n : Int) != wrap64 ((s.size : Int) + 1)) = true) :
    Calls Try.prog 12 #[.string s, .slice A n cap, .int .u8 c] w fun e w' => e = .returned (.slice none 0 0) ∧ Below w.heap.size w w' := by
  go_enter Try.func12, Try.ntmps12
  go_wp2
  go_ret
  exact ⟨rfl, below_alloc (below_alloc (below_alloc (Below.refl _ _) _) _) _⟩
def edit_Next.f (a0 : ByteArray) (l1 : List Int) (a2 : Int) : Option (List Int) :=
  if (l1.length : Int) = wrap64 ((a0.size : Int) + 1) then (if a0.size ≤ 1000000 then some (rowNext a0 l1 a2) else none) else some []
theorem edit_Next.calls (a0 : ByteArray) (A1 : Option Addr) (c1 : Nat) (l1 : List Int) (a2 : Int) (r : List Int) (w : World) (hr1 : Kd.C (Kd.int .i64) w A1 l1.length l1) (hc1 : l1.length ≤ c1) (h : edit_Next.f a0 l1 a2 = some r) :
    Calls Try.prog 12 #[.string a0, .slice A1 l1.length c1, .int .u8 a2] w fun e w' => ∃ v0_ : Value, e = .returned v0_ ∧ Kd.R (Kd.int .i64) 3 w' w.heap.size (fun _ => True) v0_ r ∧ Below w.heap.size w w' := by
  unfold edit_Next.f at h
  split at h
  · rename_i h1
    split at h
    · rename_i h2
      obtain rfl := Option.some.inj h
      rw [w64 (by omega) (by omega)] at h1
      exact next_calls a0 A1 c1 l1 a2 w hr1 (by omega) h2
    · cases h
  · rename_i h1
    obtain rfl := Option.some.inj h
    refine (next_bad a0 A1 c1 l1.length a2 w (by rw [bne_iff_ne]; exact h1)).mono ?_
    rintro e w' ⟨rfl, hb⟩
    exact ⟨_, rfl, Kd.R_nil _ _ _ _ _, hb⟩
def edit_Distance.f (a0 : ByteArray) (a1 : ByteArray) : Option Int := if a0.size ≤ 999999 then (if a1.size ≤ 140737488351232 then some (dist a0 a1) else none) else none
theorem edit_Distance.calls (a0 : ByteArray) (a1 : ByteArray) (r : Int) (w : World) (h : edit_Distance.f a0 a1 = some r) :
    Calls Try.prog 14 #[.string a0, .string a1] w fun e w' => e = .returned (.int .i64 r) ∧ Below w.heap.size w w' := by
  unfold edit_Distance.f at h
  split at h
  · split at h
    · obtain rfl := Option.some.inj h
      exact distance_calls a0 a1 w (by assumption) (by assumption)
    · cases h
  · cases h
def edit_Within.f (a0 : ByteArray) (a1 : ByteArray) (a2 : Int) : Option (Int × Bool) := if a0.size ≤ 999999 then (if a1.size ≤ 140737488351232 then some (within a0 a1 a2) else none) else none
theorem edit_Within.calls (a0 : ByteArray) (a1 : ByteArray) (a2 : Int) (r1 : Int) (r2 : Bool) (w : World) (h : edit_Within.f a0 a1 a2 = some (r1, r2)) :
    Calls Try.prog 19 #[.string a0, .string a1, .int .i64 a2] w fun e w' => e = .returned (.tuple #[.int .i64 r1, .bool r2]) ∧ Below w.heap.size w w' := by
  unfold edit_Within.f at h
  split at h
  · split at h
    · have h := Option.some.inj h
      have h2 := within_calls a0 a1 a2 w (by assumption) (by assumption)
      rw [h] at h2
      exact h2
    · cases h
  · cases h
end Go.Proofs.Ytkogfbgeepgjgaa
