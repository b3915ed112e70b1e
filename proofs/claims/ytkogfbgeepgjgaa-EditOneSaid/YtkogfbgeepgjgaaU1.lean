import Derived.Test.YtkogfbgeepgjgaaH2
namespace Go.Proofs.Ytkogfbgeepgjgaa
open Go.RowKit Go.Proofs.YtkogfbgeepgjgaaW.PrintWords Go.Proofs.YtkogfbgeepgjgaaW.PrintLast Go.Proofs.YtkogfbgeepgjgaaW.PrintMore

theorem w64 {x : Int} (h : -9223372036854775808 ≤ x) (h2 : x ≤ 9223372036854775807) : wrap64 x = x := by unfold wrap64; omega
def iota (n : Nat) : List Int := (List.range n).map Int.ofNat
theorem iota_length (n : Nat) : (iota n).length = n := by simp [iota]
theorem rd_iota (n i : Nat) (h : i < n) : rd (iota n) i = i := by simp [rd, iota, h]
theorem start_loop (n : Nat) (hn : n ≤ 1000000) : ∀ (d i k : Nat) (xs : List Int), i + d = n → xs.length = n → (∀ j, j < i → rd xs j = j) → d < k → PBase.edit_Start.l0 k xs n i = some (iota n) := by
  intro d
  induction d with
  | zero =>
    intro i k xs hi hl h hk
    obtain ⟨k, rfl⟩ : ∃ m, k = m + 1 := ⟨k - 1, by omega⟩
    simp only [PBase.edit_Start.l0]
    rw [if_neg (by omega)]
    congr 1
    apply List.ext_getElem (by rw [hl, iota_length])
    intro j h1 h2
    have := h j (by omega)
    simp [rd, h1] at this
    simp [iota, this]
  | succ d ih =>
    intro i k xs hi hl h hk
    obtain ⟨k, rfl⟩ : ∃ m, k = m + 1 := ⟨k - 1, by omega⟩
    simp only [PBase.edit_Start.l0]
    rw [if_pos (by omega), if_pos (by omega), if_pos (by omega), w64 (by omega) (by omega), show ((i : Int) + 1) = ((i + 1 : Nat) : Int) from by omega]
    refine ih (i + 1) k _ (by omega) (by simpa using hl) ?_ (by omega)
    intro j hj
    rw [Int.toNat_natCast]
    by_cases e : j = i
    · subst e
      simp [rd, List.getElem?_set, hl]
      rw [if_pos (by omega)]
      rfl
    · have := h j (by omega)
      simp only [rd, Int.toNat_natCast, List.getD_eq_getElem?_getD] at this ⊢
      rw [List.getElem?_set_ne (by omega)]
      exact this
theorem start_eq (s : ByteArray) (h : s.size ≤ 999999) : PBase.edit_Start.f (s.size + 2) s = some (iota (s.size + 1)) := by
  unfold PBase.edit_Start.f
  rw [w64 (by omega) (by omega), if_pos (by omega), if_pos (by omega)]
  simp only [Option.bind_some]
  rw [List.length_replicate, show ((s.size : Int) + 1).toNat = s.size + 1 from by omega]
  exact start_loop (s.size + 1) (by omega) (s.size + 1) 0 _ _ (by omega) (by simp) (by omega) (by omega)

def minL (l : List Int) : Int := (l.drop 1).foldl mn (rd l 0)
theorem least_loop (l : List Int) (hn : l.length ≤ 1000000) : ∀ (d i k : Nat) (x : Int), i + d = l.length → d < k → PBase.edit_least.l0 k x l l.length i = some ((l.drop i).foldl mn x) := by
  intro d
  induction d with
  | zero =>
    intro i k x hi hk
    obtain ⟨k, rfl⟩ : ∃ m, k = m + 1 := ⟨k - 1, by omega⟩
    simp only [PBase.edit_least.l0]
    rw [if_neg (by omega), List.drop_of_length_le (by omega)]
    rfl
  | succ d ih =>
    intro i k x hi hk
    obtain ⟨k, rfl⟩ : ∃ m, k = m + 1 := ⟨k - 1, by omega⟩
    simp only [PBase.edit_least.l0]
    rw [if_pos (by omega), if_pos (by omega), if_pos (by omega), w64 (by omega) (by omega), show ((i : Int) + 1) = ((i + 1 : Nat) : Int) from by omega, ih (i + 1) k _ (by omega) (by omega)]
    have hlt : i < l.length := by omega
    rw [List.drop_eq_getElem_cons hlt, List.foldl_cons, show rd l i = l[i] from by simp [rd, hlt]]
theorem least_eq (l : List Int) (h0 : 0 < l.length) (hn : l.length ≤ 1000000) : PBase.edit_Least.f (l.length + 2) l = some (minL l) := by
  unfold PBase.edit_Least.f PBase.edit_least.f
  rw [if_neg (by omega), if_pos (by omega), if_pos (by omega)]
  have := least_loop (l.drop 1) (by simp; omega) (l.drop 1).length 0 (l.length + 2) (rd l 0) (by omega) (by simp; omega)
  rw [List.drop_zero] at this
  rw [show ((0 : Nat) : Int) = 0 from rfl] at this
  rw [this]
  rfl
end Go.Proofs.Ytkogfbgeepgjgaa
