/- Chapter 8's plain laws, what all of them ask: the examples, a rest, a short text, the program's answers by lists. No conditions beyond those that stand in each theorem. -/
import Derived.Test.YtimkhjbnkcgekaaDoorH10
import Derived.Test.YtimkhjbnkcgekaaDoorPQx
namespace Go.Proofs.YtimkhjbnkcgekaaDoor.Lx
open Go Go.RowKit Go.Proofs.YtimkhjbnkcgekaaDoor Go.Proofs.YtimkhjbnkcgekaaDoor.PB Go.Proofs.YtimkhjbnkcgekaaDoor.PC Go.Proofs.YtimkhjbnkcgekaaDoor.PQ Go.Proofs.YtimkhjbnkcgekaaDoor.V3 Go.Proofs.YtimkhjbnkcgekaaDoorW.PrintWords Go.Proofs.YtimkhjbnkcgekaaDoorW.PrintLast
set_option linter.unusedVariables false
set_option maxRecDepth 100000 in
theorem awake_true : drachmlaw08_awake.f = some true := by
  first
    | kernel_rfl
    | decide +kernel
theorem rest_eq (n : Int) (m : Int) (h : 0 < m) (h2 : m ≤ 1000) : ∃ r, drachmlaw08_rest.f n m = some r ∧ 0 ≤ r ∧ r < m := by
  unfold drachmlaw08_rest.f
  rw [if_neg (by omega)]
  have a := Int.tmod_lt_of_pos n h
  have b := Int.lt_tmod_of_pos n h
  generalize Int.tmod n m = q at a b
  rw [w64 (x := q + m) (by omega) (by omega)]
  exact ⟨_, rfl, Int.tmod_nonneg _ (by omega), Int.tmod_lt_of_pos _ h⟩
theorem short_eq (s : ByteArray) (m : Int) (h : 0 ≤ m) : ∃ t, drachmlaw08_short.f s m = some t ∧ (t.size : Int) ≤ m := by
  unfold drachmlaw08_short.f
  by_cases hs : (s.size : Int) > m
  · rw [if_pos hs, if_pos h, if_pos (by omega)]
    exact ⟨_, rfl, by rw [ByteArray.size_extract]; omega⟩
  · rw [if_neg hs]
    exact ⟨_, rfl, by omega⟩
theorem each_f (n : Int) (s : ByteArray) (hs : s.size ≤ 1000) {x : Sty} (hx : style_Of.f n = some x) : drachmlaw08_each.f n s = some (all x (bytesOf s)) := by
  unfold drachmlaw08_each.f
  rw [if_pos hs, hx]
  rfl
theorem lex_f (n : Int) (s : ByteArray) (hs : s.size ≤ 1000) {x : Sty} (hx : style_Of.f n = some x) : lex_Lex.f n s = some (lexP x s) := by
  unfold lex_Lex.f
  rw [if_pos hs, hx]
  rfl
theorem same_from (l : List S31) (hl : l.length ≤ 100000) : ∀ (d i : Nat), i + d = l.length → ∀ k, d < k → drachmref08_Same.l0 k l l (i : Int) = some true
  | 0, i, hi, k, hk => by
    obtain ⟨k, rfl⟩ : ∃ m, k = m + 1 := ⟨k - 1, by omega⟩
    rw [drachmref08_Same.l0, if_neg (by omega)]
  | d + 1, i, hi, k, hk => by
    obtain ⟨k, rfl⟩ : ∃ m, k = m + 1 := ⟨k - 1, by omega⟩
    have ih := same_from l hl d (i + 1) (by omega) k (by omega)
    rw [drachmref08_Same.l0, if_pos (by omega), if_pos (by omega), if_pos (by omega), if_neg (by simp), w64 (by omega) (by omega)]
    exact ih
theorem same_refl (l : List S31) (hl : l.length ≤ 100000) (k : Nat) (hk : l.length < k) : drachmref08_Same.f k l l = some true := by
  unfold drachmref08_Same.f
  rw [if_pos rfl]
  exact same_from l hl l.length 0 (by omega) k hk
theorem all_length (x : Sty) (B : List Int) : (all x B).length ≤ B.length := toks_len _ _ _
theorem endOf_le (x : Sty) (B : List Int) : endOf x B ≤ B.length := by have := (toks_end (x := x) B.length 0 B).2; unfold endOf; omega
theorem is_style {n : Int} (h : 1 ≤ n ∧ n ≤ 5) {x : Sty} (hx : style_Of.f n = some x) : x.2.2.2.2.2.2 = true := (of_two n hx).2.1.2 h
theorem lexP_long {x : Sty} {s : ByteArray} (h : x.2.2.2.2.2.2 = true) (hs : 255 < s.size) : lexP x s = ([], 0, 12) := by
  unfold lexP; rw [if_neg (by simp [h]), if_pos hs]
theorem lexP_bad {x : Sty} {s : ByteArray} (h : x.2.2.2.2.2.2 = true) (hs : s.size ≤ 255) (he : endOf x (bytesOf s) < s.size) : lexP x s = ([], (endOf x (bytesOf s) : Int), 14) := by
  unfold lexP; rw [if_neg (by simp [h]), if_neg (by omega), if_pos he]
theorem lexP_ok {x : Sty} {s : ByteArray} (h : x.2.2.2.2.2.2 = true) (hs : s.size ≤ 255) (he : endOf x (bytesOf s) = s.size) : lexP x s = (all x (bytesOf s), (s.size : Int), 0) := by
  unfold lexP; rw [if_neg (by simp [h]), if_neg (by omega), if_neg (by omega), he]
theorem lexP_none {x : Sty} {s : ByteArray} (h : x.2.2.2.2.2.2 = false) : lexP x s = ([], 0, 1) := by
  unfold lexP; rw [if_pos h]
end Go.Proofs.YtimkhjbnkcgekaaDoor.Lx
