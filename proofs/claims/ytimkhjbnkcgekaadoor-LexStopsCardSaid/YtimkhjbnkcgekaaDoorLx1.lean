/- The tokens of a text by lists of bytes: plain. No conditions beyond those that stand in each theorem. -/
import Derived.Test.YtimkhjbnkcgekaaDoorV3
namespace Go.Proofs.YtimkhjbnkcgekaaDoor.Lx
open Go.RowKit Go.Proofs.YtimkhjbnkcgekaaDoorW.PrintWords Go.Proofs.YtimkhjbnkcgekaaDoorW.PrintLast
set_option linter.unusedVariables false
abbrev Sty := Bool × Int × Int × Int × Int × Int × Bool
def Sty.open_ (x : Sty) : Int := x.2.2.2.2.1
def Sty.close_ (x : Sty) : Int := x.2.2.2.2.2.1
/-- A token by its kind, its bytes, its number, its length in the text. -/
structure Tk where
  k : Int
  t : List Int
  v : Int
  n : Nat
def valOf : List Int → Int → Int
  | [], a => a
  | c :: r, a => valOf r (a * 10 + (c - 48))
def numL (w : List Int) : Option Int := if valOf w 0 ≤ 9223372036854775807 then some (valOf w 0) else none
def kp_ (x : Sty) (k : Int) (c : Int) : Bool := kindP x c == k
def nextL (x : Sty) : List Int → Option Tk
  | [] => none
  | b :: r =>
    if kindP x b = 0 ∨ kindP x b = 10 then none
    else if kindP x b = 1 then some ⟨1, ((b :: r).takeWhile (kp_ x 1)).map (up x.1), 0, ((b :: r).takeWhile (kp_ x 1)).length⟩
    else if kindP x b = 2 then match numL ((b :: r).takeWhile (kp_ x 2)) with
      | none => none
      | some v => some ⟨2, (b :: r).takeWhile (kp_ x 2), v, ((b :: r).takeWhile (kp_ x 2)).length⟩
    else if kindP x b = 9 then
      if (r.takeWhile (· != x.close_)).length < r.length ∧ (r.takeWhile (· != x.close_)).all (okb x.open_ x.close_) = true then some ⟨9, r.takeWhile (· != x.close_), 0, (r.takeWhile (· != x.close_)).length + 2⟩ else none
    else some ⟨kindP x b, [b], 0, 1⟩
theorem nextL_cons (x : Sty) (b : Int) (r : List Int) : nextL x (b :: r) =
    if kindP x b = 0 ∨ kindP x b = 10 then none
    else if kindP x b = 1 then some ⟨1, ((b :: r).takeWhile (kp_ x 1)).map (up x.1), 0, ((b :: r).takeWhile (kp_ x 1)).length⟩
    else if kindP x b = 2 then match numL ((b :: r).takeWhile (kp_ x 2)) with
      | none => none
      | some v => some ⟨2, (b :: r).takeWhile (kp_ x 2), v, ((b :: r).takeWhile (kp_ x 2)).length⟩
    else if kindP x b = 9 then
      if (r.takeWhile (· != x.close_)).length < r.length ∧ (r.takeWhile (· != x.close_)).all (okb x.open_ x.close_) = true then some ⟨9, r.takeWhile (· != x.close_), 0, (r.takeWhile (· != x.close_)).length + 2⟩ else none
    else some ⟨kindP x b, [b], 0, 1⟩ := rfl
theorem takeWhile_len {α} (p : α → Bool) : ∀ l : List α, (l.takeWhile p).length ≤ l.length
  | [] => Nat.le_refl _
  | a :: l => by
    rw [List.takeWhile_cons]
    split
    · simp only [List.length_cons]; have := takeWhile_len p l; omega
    · simp
theorem takeWhile_take {α} (p : α → Bool) : ∀ l : List α, l.take (l.takeWhile p).length = l.takeWhile p
  | [] => rfl
  | a :: l => by
    rw [List.takeWhile_cons]
    split
    · simp only [List.length_cons, List.take_succ_cons, takeWhile_take p l]
    · simp
theorem takeWhile_app {α} (p : α → Bool) (R : List α) (hR : ∀ c, R.head? = some c → p c = false) : ∀ l : List α, (∀ c ∈ l, p c = true) → (l ++ R).takeWhile p = l
  | [], _ => by
    cases R with
    | nil => rfl
    | cons c R => rw [List.nil_append, List.takeWhile_cons, if_neg (by rw [hR c rfl]; decide)]
  | a :: l, h => by
    rw [List.cons_append, List.takeWhile_cons, if_pos (h a (List.mem_cons_self ..)), takeWhile_app p R hR l (fun c hc => h c (List.mem_cons_of_mem _ hc))]
theorem takeWhile_all {α} (p : α → Bool) : ∀ l : List α, ∀ c ∈ l.takeWhile p, p c = true
  | [], c, h => by simp at h
  | a :: l, c, h => by
    rw [List.takeWhile_cons] at h
    split at h
    · rcases List.mem_cons.1 h with rfl | h
      · assumption
      · exact takeWhile_all p l c h
    · simp at h
theorem takeWhile_next {α} (p : α → Bool) : ∀ l : List α, ∀ c, (l.drop (l.takeWhile p).length).head? = some c → p c = false
  | [], c, h => by simp at h
  | a :: l, c, h => by
    rw [List.takeWhile_cons] at h
    split at h
    · rw [List.length_cons, List.drop_succ_cons] at h
      exact takeWhile_next p l c h
    · rename_i hp
      simp at h
      subst h
      simpa using hp
theorem tw_in {α} (p : α → Bool) (d : α) : ∀ (l : List α) (k : Nat), k < (l.takeWhile p).length → p (l.getD k d) = true
  | [], k, h => by simp at h
  | a :: l, k, h => by
    rw [List.takeWhile_cons] at h
    split at h
    · cases k with
      | zero => assumption
      | succ k => rw [List.getD_cons_succ]; exact tw_in p d l k (by simpa using h)
    · simp at h
theorem tw_out {α} (p : α → Bool) (d : α) : ∀ (l : List α), (l.takeWhile p).length < l.length → p (l.getD (l.takeWhile p).length d) = false
  | [], h => by simp at h
  | a :: l, h => by
    rw [List.takeWhile_cons] at h ⊢
    split
    · rename_i hp
      rw [if_pos hp] at h
      rw [List.length_cons, List.getD_cons_succ]
      exact tw_out p d l (by simpa using h)
    · rename_i hp
      simpa using hp
theorem kind_open {x : Sty} {b : Int} (h : kindP x b = 9) : b = x.open_ ∧ x.open_ ≠ 0 := by
  unfold kindP at h
  unfold Sty.open_
  repeat' split at h
  all_goals first | (exfalso; omega) | skip
  rename_i h0 _ _ _ _ _ _ _ _ h1
  exact ⟨h1, by rw [← h1]; exact fun h => h0 (Or.inr h)⟩
/-- What a token that stands at the beginning says of the text. -/
theorem next_pos {x : Sty} {B : List Int} {t : Tk} (h : nextL x B = some t) : 0 < t.n ∧ t.n ≤ B.length := by
  cases B with
  | nil => simp [nextL] at h
  | cons b r =>
    rw [nextL_cons] at h
    by_cases h0 : kindP x b = 0 ∨ kindP x b = 10
    · rw [if_pos h0] at h; cases h
    rw [if_neg h0] at h
    by_cases h1 : kindP x b = 1
    · rw [if_pos h1] at h
      cases h
      refine ⟨?_, takeWhile_len _ _⟩
      show 0 < ((b :: r).takeWhile (kp_ x 1)).length
      rw [List.takeWhile_cons, if_pos (by simp [kp_, h1])]; simp
    rw [if_neg h1] at h
    by_cases h2 : kindP x b = 2
    · rw [if_pos h2] at h
      split at h
      · cases h
      · cases h
        refine ⟨?_, takeWhile_len _ _⟩
        show 0 < ((b :: r).takeWhile (kp_ x 2)).length
        rw [List.takeWhile_cons, if_pos (by simp [kp_, h2])]; simp
    rw [if_neg h2] at h
    by_cases h9 : kindP x b = 9
    · rw [if_pos h9] at h
      split at h
      · rename_i hc
        cases h
        simp only [List.length_cons]
        omega
      · cases h
    rw [if_neg h9] at h
    cases h
    simp
theorem next_ne {x : Sty} {B : List Int} (h : nextL x B = none) (b : Int) (r : List Int) (hB : B = b :: r) (h1 : kindP x b ≠ 0) : kindP x b ≠ 1 := by
  subst hB
  rw [nextL_cons] at h
  intro h1
  rw [if_neg (by omega), if_pos h1] at h
  cases h
/-- The token stands there whatever comes behind it, but for what would make it longer. -/
theorem next_app {x : Sty} {B R : List Int} {t : Tk} (h : nextL x B = some t) (hR : t.k = 1 ∨ t.k = 2 → ∀ c, R.head? = some c → kindP x c ≠ t.k) : nextL x (B.take t.n ++ R) = some t := by
  cases B with
  | nil => simp [nextL] at h
  | cons b r =>
    have hn := next_pos h
    rw [nextL_cons] at h
    by_cases h0 : kindP x b = 0 ∨ kindP x b = 10
    · rw [if_pos h0] at h; cases h
    rw [if_neg h0] at h
    by_cases h1 : kindP x b = 1
    · rw [if_pos h1] at h
      cases h
      simp only [takeWhile_take]
      have e : ((b :: r).takeWhile (kp_ x 1) ++ R).takeWhile (kp_ x 1) = (b :: r).takeWhile (kp_ x 1) :=
        takeWhile_app _ R (fun c hc => by simpa [kp_] using hR (Or.inl rfl) c hc) _ (takeWhile_all _ _)
      have hw : ∃ w, (b :: r).takeWhile (kp_ x 1) = b :: w := by
        rw [List.takeWhile_cons, if_pos (by simp [kp_, h1])]; exact ⟨_, rfl⟩
      obtain ⟨w, hw⟩ := hw
      rw [hw] at e ⊢
      rw [List.cons_append] at e ⊢
      rw [nextL_cons]
      rw [if_neg h0, if_pos h1, e]
    rw [if_neg h1] at h
    by_cases h2 : kindP x b = 2
    · rw [if_pos h2] at h
      have hw : ∃ w, (b :: r).takeWhile (kp_ x 2) = b :: w := by
        rw [List.takeWhile_cons, if_pos (by simp [kp_, h2])]; exact ⟨_, rfl⟩
      obtain ⟨w, hw⟩ := hw
      split at h
      · cases h
      · rename_i v hv
        cases h
        simp only [takeWhile_take]
        have e : ((b :: r).takeWhile (kp_ x 2) ++ R).takeWhile (kp_ x 2) = (b :: r).takeWhile (kp_ x 2) :=
          takeWhile_app _ R (fun c hc => by simpa [kp_] using hR (Or.inr rfl) c hc) _ (takeWhile_all _ _)
        rw [hw] at e hv ⊢
        rw [List.cons_append] at e ⊢
        rw [nextL_cons]
        rw [if_neg h0, if_neg h1, if_pos h2, e, hv]
    rw [if_neg h2] at h
    by_cases h9 : kindP x b = 9
    · rw [if_pos h9] at h
      split at h
      · rename_i hc
        cases h
        simp only
        have e1 : r.take ((r.takeWhile (· != x.close_)).length + 1) = r.takeWhile (· != x.close_) ++ [x.close_] := by
          have e2 := takeWhile_next (· != x.close_) r
          have hd := List.drop_eq_getElem_cons hc.1
          rw [List.take_succ_eq_append_getElem hc.1, takeWhile_take]
          rw [hd] at e2
          have e3 := e2 _ rfl
          congr 2
          simpa using e3
        rw [show (r.takeWhile (· != x.close_)).length + 2 = ((r.takeWhile (· != x.close_)).length + 1) + 1 from rfl, List.take_succ_cons, e1, List.cons_append, List.append_assoc]
        have e : (r.takeWhile (· != x.close_) ++ ([x.close_] ++ R)).takeWhile (· != x.close_) = r.takeWhile (· != x.close_) :=
          takeWhile_app _ _ (fun c hc => by simp at hc; subst hc; simp) _ (takeWhile_all _ _)
        rw [nextL_cons]
        rw [if_neg h0, if_neg h1, if_neg h2, if_pos h9, e, if_pos ⟨by simp, hc.2⟩]
      · cases h
    rw [if_neg h9] at h
    cases h
    simp only [List.take_succ_cons, List.take_zero, List.cons_append, List.nil_append]
    rw [nextL_cons]
    rw [if_neg h0, if_neg h1, if_neg h2, if_neg h9]
/-- A token that is made of letters, or of digits, is as long as it can be. -/
theorem next_max {x : Sty} {B : List Int} {t : Tk} (h : nextL x B = some t) : t.k = 1 ∨ t.k = 2 → ∀ c, (B.drop t.n).head? = some c → kindP x c ≠ t.k := by
  cases B with
  | nil => simp [nextL] at h
  | cons b r =>
    rw [nextL_cons] at h
    by_cases h0 : kindP x b = 0 ∨ kindP x b = 10
    · rw [if_pos h0] at h; cases h
    rw [if_neg h0] at h
    by_cases h1 : kindP x b = 1
    · rw [if_pos h1] at h
      cases h
      intro _ c hc
      have := takeWhile_next _ _ c hc
      simpa [kp_] using this
    rw [if_neg h1] at h
    by_cases h2 : kindP x b = 2
    · rw [if_pos h2] at h
      split at h
      · cases h
      · cases h
        intro _ c hc
        have := takeWhile_next _ _ c hc
        simpa [kp_] using this
    rw [if_neg h2] at h
    by_cases h9 : kindP x b = 9
    · rw [if_pos h9] at h
      split at h
      · cases h
        intro h; rcases h with h | h <;> cases h
      · cases h
    rw [if_neg h9] at h
    cases h
    intro h
    exfalso
    rcases h with h | h
    · exact h1 h
    · exact h2 h
/-- What a token's own cells say. -/
theorem next_says {x : Sty} {b : Int} {r : List Int} {t : Tk} (h : nextL x (b :: r) = some t) : t.k = kindP x b ∧ t.k ≠ 0 ∧ t.k ≠ 10 ∧ (t.k ≠ 2 → t.v = 0) ∧ (t.k = 9 → t.n = t.t.length + 2 ∧ (b :: r).take t.n = x.open_ :: t.t ++ [x.close_]) ∧ (t.k ≠ 9 → t.n = t.t.length) ∧ (t.k = 1 → t.t = ((b :: r).take t.n).map (up x.1)) ∧ (t.k ≠ 1 → t.k ≠ 9 → t.t = (b :: r).take t.n) := by
  rw [nextL_cons] at h
  by_cases h0 : kindP x b = 0 ∨ kindP x b = 10
  · rw [if_pos h0] at h; cases h
  rw [if_neg h0] at h
  by_cases h1 : kindP x b = 1
  · rw [if_pos h1] at h
    cases h
    refine ⟨h1.symm, by simp, by simp, fun _ => rfl, fun h => by simp at h, fun _ => by simp, fun _ => by simp only [takeWhile_take], fun h => absurd rfl h⟩
  rw [if_neg h1] at h
  by_cases h2 : kindP x b = 2
  · rw [if_pos h2] at h
    split at h
    · cases h
    · cases h
      refine ⟨h2.symm, by simp, by simp, fun h => absurd rfl h, fun h => by simp at h, fun _ => rfl, fun h => by simp at h, fun _ _ => by simp only [takeWhile_take]⟩
  rw [if_neg h2] at h
  by_cases h9 : kindP x b = 9
  · rw [if_pos h9] at h
    split at h
    · rename_i hc
      cases h
      have e1 : r.take ((r.takeWhile (· != x.close_)).length + 1) = r.takeWhile (· != x.close_) ++ [x.close_] := by
        have e2 := takeWhile_next (· != x.close_) r
        have hd := List.drop_eq_getElem_cons hc.1
        rw [List.take_succ_eq_append_getElem hc.1, takeWhile_take]
        rw [hd] at e2
        have e3 := e2 _ rfl
        congr 2
        simpa using e3
      refine ⟨h9.symm, by simp, by simp, fun _ => rfl, fun _ => ⟨rfl, ?_⟩, fun h => absurd rfl h, fun h => by simp at h, fun _ h => absurd rfl h⟩
      show (b :: r).take ((r.takeWhile (· != x.close_)).length + 2) = _
      rw [show (r.takeWhile (· != x.close_)).length + 2 = ((r.takeWhile (· != x.close_)).length + 1) + 1 from rfl, List.take_succ_cons, e1, (kind_open h9).1]
      rfl
    · cases h
  rw [if_neg h9] at h
  cases h
  refine ⟨rfl, fun h => h0 (Or.inl h), fun h => h0 (Or.inr h), fun _ => rfl, fun h => absurd h h9, fun _ => rfl, fun h => absurd h h1, fun _ _ => rfl⟩
end Go.Proofs.YtimkhjbnkcgekaaDoor.Lx
