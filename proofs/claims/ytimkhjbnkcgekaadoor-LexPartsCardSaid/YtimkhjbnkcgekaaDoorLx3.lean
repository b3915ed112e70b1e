/- The tokens of a text, all: plain. No conditions beyond those that stand in each theorem. -/
import Derived.Test.YtimkhjbnkcgekaaDoorLx2
import Derived.Test.YtimkhjbnkcgekaaDoorPCx
namespace Go.Proofs.YtimkhjbnkcgekaaDoor.Lx
open Go Go.RowKit Go.Proofs.YtimkhjbnkcgekaaDoor.PC Go.Proofs.YtimkhjbnkcgekaaDoor.V3 Go.Proofs.YtimkhjbnkcgekaaDoorW.PrintWords Go.Proofs.YtimkhjbnkcgekaaDoorW.PrintLast
set_option linter.unusedVariables false
def mkT (at_ : Nat) (t : Tk) : S31 := ⟨t.k, at_, strOfNums t.t, t.v⟩
/-- The tokens of B from a place on, and where none stands any more. -/
def toks (x : Sty) : Nat → Nat → List Int → List S31 × Nat
  | 0, a, _ => ([], a)
  | d + 1, a, B => match nextL x B with
    | none => ([], a)
    | some t => (mkT a t :: (toks x d (a + t.n) (B.drop t.n)).1, (toks x d (a + t.n) (B.drop t.n)).2)
theorem toks_none {x : Sty} {B : List Int} (h : nextL x B = none) (d a : Nat) : toks x d a B = ([], a) := by
  cases d with
  | zero => rfl
  | succ d => rw [toks, h]
theorem toks_some {x : Sty} {B : List Int} {t : Tk} (h : nextL x B = some t) (d a : Nat) : toks x (d + 1) a B = (mkT a t :: (toks x d (a + t.n) (B.drop t.n)).1, (toks x d (a + t.n) (B.drop t.n)).2) := by
  rw [toks, h]
/-- What is left to read does not matter, if it is enough. -/
theorem toks_fuel {x : Sty} : ∀ (d d' a : Nat) (B : List Int), B.length ≤ d → B.length ≤ d' → toks x d a B = toks x d' a B := by
  intro d
  induction d with
  | zero =>
    intro d' a B h h'
    obtain rfl : B = [] := List.eq_nil_of_length_eq_zero (by omega)
    rw [toks_none rfl, toks_none rfl]
  | succ d ih =>
    intro d' a B h h'
    cases hn : nextL x B with
    | none => rw [toks_none hn, toks_none hn]
    | some t =>
      obtain ⟨h1, h2⟩ := next_pos hn
      obtain ⟨d', rfl⟩ : ∃ e, d' = e + 1 := ⟨d' - 1, by omega⟩
      rw [toks_some hn, toks_some hn, ih d' (a + t.n) (B.drop t.n) (by rw [List.length_drop]; omega) (by rw [List.length_drop]; omega)]
def all (x : Sty) (B : List Int) : List S31 := (toks x B.length 0 B).1
def endOf (x : Sty) (B : List Int) : Nat := (toks x B.length 0 B).2
theorem toks_len {x : Sty} : ∀ (d a : Nat) (B : List Int), (toks x d a B).1.length ≤ B.length := by
  intro d
  induction d with
  | zero => intro a B; simp [toks]
  | succ d ih =>
    intro a B
    cases hn : nextL x B with
    | none => rw [toks_none hn]; simp
    | some t =>
      obtain ⟨h1, h2⟩ := next_pos hn
      rw [toks_some hn, List.length_cons]
      have := ih (a + t.n) (B.drop t.n)
      rw [List.length_drop] at this
      omega
theorem toks_end {x : Sty} : ∀ (d a : Nat) (B : List Int), a ≤ (toks x d a B).2 ∧ (toks x d a B).2 ≤ a + B.length := by
  intro d
  induction d with
  | zero => intro a B; simp [toks]
  | succ d ih =>
    intro a B
    cases hn : nextL x B with
    | none => rw [toks_none hn]; simp
    | some t =>
      obtain ⟨h1, h2⟩ := next_pos hn
      rw [toks_some hn]
      have := ih (a + t.n) (B.drop t.n)
      rw [List.length_drop] at this
      simp only
      omega
/-- A token's length in the text. -/
def sizeT (t : S31) : Nat := if t.f0 = 9 then t.f2.size + 2 else t.f2.size
theorem size_mk {x : Sty} {B : List Int} {t : Tk} (h : nextL x B = some t) (a : Nat) : sizeT (mkT a t) = t.n := by
  cases B with
  | nil => simp [nextL] at h
  | cons b r =>
    obtain ⟨_, _, _, _, h9, hn9, _, _⟩ := next_says h
    unfold sizeT mkT
    simp only [son_size]
    by_cases e : t.k = 9
    · rw [if_pos e, (h9 e).1]
    · rw [if_neg e, hn9 e]
def sumT : List S31 → Nat
  | [] => 0
  | t :: l => sizeT t + sumT l
theorem sumT_append (l : List S31) (t : S31) : sumT (l ++ [t]) = sumT l + sizeT t := by
  induction l with
  | nil => simp [sumT]
  | cons a l ih => rw [List.cons_append, sumT, ih, sumT]; omega
theorem sum_toks {x : Sty} : ∀ (d a : Nat) (B : List Int), a + sumT (toks x d a B).1 = (toks x d a B).2 := by
  intro d
  induction d with
  | zero => intro a B; simp [toks, sumT]
  | succ d ih =>
    intro a B
    cases hn : nextL x B with
    | none => rw [toks_none hn]; simp [sumT]
    | some t =>
      rw [toks_some hn, sumT, size_mk hn, ← ih]
      omega
theorem sum_all (x : Sty) (B : List Int) : sumT (all x B) = endOf x B := by
  have := sum_toks (x := x) B.length 0 B
  unfold all endOf
  omega
end Go.Proofs.YtimkhjbnkcgekaaDoor.Lx
