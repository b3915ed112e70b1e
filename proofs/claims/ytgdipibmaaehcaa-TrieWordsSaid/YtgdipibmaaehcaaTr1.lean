/- Tries in plain lists: the nodes are the words' beginnings, in the order in which they come. No conditions beyond those in each theorem. -/
import Derived.WalkKit
namespace Go.Proofs.Ytgdipibmaaehcaa.Tr
set_option linter.unusedVariables false
abbrev Str := List UInt8
/-- Where a text stands first. -/
def pos : List Str → Str → Option Nat
  | [], _ => none
  | x :: l, s => if x = s then some 0 else (pos l s).map (· + 1)
theorem pos_none : ∀ (l : List Str) (s : Str), pos l s = none ↔ s ∉ l
  | [], s => by simp [pos]
  | x :: l, s => by
    unfold pos
    by_cases h : x = s
    · subst h; simp
    · rw [if_neg h, Option.map_eq_none_iff, pos_none l s]
      simp [Ne.symm h]
theorem pos_some : ∀ (l : List Str) (s : Str) (i : Nat), pos l s = some i → l[i]? = some s ∧ i < l.length ∧ ∀ j, j < i → l[j]? ≠ some s
  | [], s, i, h => by simp [pos] at h
  | x :: l, s, i, h => by
    unfold pos at h
    by_cases e : x = s
    · rw [if_pos e] at h
      cases h
      exact ⟨by rw [e]; rfl, by simp, fun j hj => by omega⟩
    · rw [if_neg e] at h
      obtain ⟨k, hk, rfl⟩ := Option.map_eq_some_iff.1 h
      have r := pos_some l s k hk
      refine ⟨r.1, by simp; exact r.2.1, fun j hj => ?_⟩
      cases j with
      | zero => simp [e]
      | succ j => simpa using r.2.2 j (by omega)
theorem pos_at {l : List Str} (hn : l.Nodup) {i : Nat} {s : Str} (h : l[i]? = some s) : pos l s = some i := by
  cases e : pos l s with
  | none => exact absurd (List.mem_of_getElem? h) ((pos_none l s).1 e)
  | some j =>
    have r := pos_some l s j e
    rcases Nat.lt_trichotomy i j with q | q | q
    · exact absurd h (r.2.2 i q)
    · rw [q]
    · obtain ⟨hi, ei⟩ := List.getElem?_eq_some_iff.1 h
      obtain ⟨hj, ej⟩ := List.getElem?_eq_some_iff.1 r.1
      exact absurd (ej.trans ei.symm) (List.pairwise_iff_getElem.1 hn j i hj hi q)
theorem pos_append (l : List Str) (q s : Str) : pos (l ++ [q]) s = (match pos l s with | some i => some i | none => if q = s then some l.length else none) := by
  induction l with
  | nil => simp [pos]
  | cons x l ih =>
    rw [List.cons_append]
    unfold pos
    by_cases e : x = s
    · rw [if_pos e, if_pos e]
    · rw [if_neg e, if_neg e, ih]
      cases pos l s with
      | some i => rfl
      | none =>
        by_cases g : q = s
        · simp [g]
        · simp [g]
/-- A row's number of a text; -1: there is none. -/
def find (l : List Str) (s : Str) : Int := match pos l s with | some i => (i : Int) | none => -1
theorem find_neg {l : List Str} {s : Str} : find l s = -1 ↔ s ∉ l := by
  unfold find
  rw [← pos_none]
  cases pos l s with
  | none => simp
  | some i => simp
theorem find_snoc (l : List Str) (q s : Str) : find (l ++ [q]) s = if find l s = -1 ∧ q = s then (l.length : Int) else find l s := by
  unfold find
  rw [pos_append]
  cases pos l s with
  | none => by_cases g : q = s <;> simp [g]
  | some i => simp
/-- A word's beginnings, put behind those that are there. -/
def addW (P : List Str) (pre : Str) : Str → List Str
  | [] => P
  | c :: r => addW (if pre ++ [c] ∈ P then P else P ++ [pre ++ [c]]) (pre ++ [c]) r
def nodesFrom : List Str → List Str → List Str
  | P, [] => P
  | P, w :: ws => nodesFrom (addW P [] w) ws
def nodes (ws : List Str) : List Str := nodesFrom [[]] ws
/-- A row of beginnings: each once, the empty one first, each with its own. -/
structure Good (P : List Str) : Prop where
  nd : P.Nodup
  nil : P[0]? = some []
  cl : ∀ x c, x ++ [c] ∈ P → x ∈ P
theorem Good.start : Good [[]] := ⟨by simp, rfl, fun x c h => by simp at h⟩
theorem Good.snoc {P : List Str} (h : Good P) {x : Str} {c : UInt8} (hx : x ∈ P) (hn : x ++ [c] ∉ P) : Good (P ++ [x ++ [c]]) := by
  refine ⟨?_, ?_, ?_⟩
  · rw [List.nodup_append]
    refine ⟨h.nd, by simp, fun a ha b hb e => ?_⟩
    simp only [List.mem_singleton] at hb
    exact hn (by rw [← hb, ← e]; exact ha)
  · rw [List.getElem?_append_left]
    · exact h.nil
    · obtain ⟨hh, _⟩ := List.getElem?_eq_some_iff.1 h.nil
      exact hh
  · intro y d hy
    rcases List.mem_append.1 hy with hy | hy
    · exact List.mem_append_left _ (h.cl y d hy)
    · simp only [List.mem_singleton] at hy
      have := List.append_inj_left' hy rfl
      rw [this]
      exact List.mem_append_left _ hx
theorem Good.empty {P : List Str} (h : Good P) : [] ∈ P := List.mem_of_getElem? h.nil
theorem Good.pre {P : List Str} (h : Good P) : ∀ (r x : Str), x ++ r ∈ P → x ∈ P := by
  intro r
  induction r with
  | nil => intro x hx; simpa using hx
  | cons c r ih =>
    intro x hx
    have : (x ++ [c]) ++ r ∈ P := by simpa using hx
    exact h.cl x c (ih _ this)
theorem addW_good : ∀ (r : Str) (P : List Str) (pre : Str), Good P → pre ∈ P → Good (addW P pre r) ∧ (∀ x ∈ P, x ∈ addW P pre r) ∧ pre ++ r ∈ addW P pre r := by
  intro r
  induction r with
  | nil => intro P pre h hp; exact ⟨h, fun x hx => hx, by simpa [addW] using hp⟩
  | cons c r ih =>
    intro P pre h hp
    unfold addW
    by_cases hm : pre ++ [c] ∈ P
    · rw [if_pos hm]
      obtain ⟨a, b, e⟩ := ih P (pre ++ [c]) h hm
      exact ⟨a, b, by simpa using e⟩
    · rw [if_neg hm]
      obtain ⟨a, b, e⟩ := ih (P ++ [pre ++ [c]]) (pre ++ [c]) (h.snoc hp hm) (by simp)
      exact ⟨a, fun x hx => b x (List.mem_append_left _ hx), by simpa using e⟩
theorem addW_mem : ∀ (r : Str) (P : List Str) (pre x : Str), x ∈ addW P pre r → x ∈ P ∨ ∃ k, k ≤ r.length ∧ x = pre ++ r.take k := by
  intro r
  induction r with
  | nil => intro P pre x hx; exact .inl hx
  | cons c r ih =>
    intro P pre x hx
    unfold addW at hx
    have key : ∀ Q, (∀ y, y ∈ Q → y ∈ P ∨ y = pre ++ [c]) → x ∈ addW Q (pre ++ [c]) r → x ∈ P ∨ ∃ k, k ≤ (c :: r).length ∧ x = pre ++ (c :: r).take k := by
      intro Q hQ hx
      rcases ih Q (pre ++ [c]) x hx with h | ⟨k, hk, h⟩
      · rcases hQ x h with h | h
        · exact .inl h
        · exact .inr ⟨1, by simp, by rw [h]; simp⟩
      · exact .inr ⟨k + 1, by simp; omega, by rw [h]; simp⟩
    by_cases hm : pre ++ [c] ∈ P
    · rw [if_pos hm] at hx
      exact key P (fun y hy => .inl hy) hx
    · rw [if_neg hm] at hx
      refine key _ (fun y hy => ?_) hx
      rcases List.mem_append.1 hy with h | h
      · exact .inl h
      · simp only [List.mem_singleton] at h
        exact .inr h
theorem nodesFrom_snoc : ∀ (ws P : List Str) (w : Str), nodesFrom P (ws ++ [w]) = addW (nodesFrom P ws) [] w
  | [], _, _ => rfl
  | x :: ws, P, w => nodesFrom_snoc ws (addW P [] x) w
theorem nodes_snoc (ws : List Str) (w : Str) : nodes (ws ++ [w]) = addW (nodes ws) [] w := nodesFrom_snoc ws _ w
theorem nodesFrom_good : ∀ (ws P : List Str), Good P → Good (nodesFrom P ws) ∧ (∀ x ∈ P, x ∈ nodesFrom P ws) ∧ ∀ x ∈ ws, x ∈ nodesFrom P ws
  | [], P, h => ⟨h, fun _ hx => hx, fun _ hx => by cases hx⟩
  | w :: ws, P, h => by
    obtain ⟨a, b, e⟩ := addW_good w P [] h h.empty
    obtain ⟨c, d, f⟩ := nodesFrom_good ws (addW P [] w) a
    refine ⟨c, fun x hx => d x (b x hx), fun x hx => ?_⟩
    rcases List.mem_cons.1 hx with rfl | hx
    · exact d _ (by simpa using e)
    · exact f x hx
theorem nodes_good (ws : List Str) : Good (nodes ws) ∧ ∀ x ∈ ws, x ∈ nodes ws :=
  ⟨(nodesFrom_good ws _ Good.start).1, (nodesFrom_good ws _ Good.start).2.2⟩
theorem nodesFrom_mem : ∀ (ws P : List Str) (x : Str), x ∈ nodesFrom P ws → x ∈ P ∨ ∃ w ∈ ws, ∃ k, k ≤ w.length ∧ x = w.take k
  | [], P, x, h => .inl h
  | w :: ws, P, x, h => by
    rcases nodesFrom_mem ws (addW P [] w) x h with h | ⟨v, hv, k, hk, h⟩
    · rcases addW_mem w P [] x h with h | ⟨k, hk, h⟩
      · exact .inl h
      · exact .inr ⟨w, by simp, k, hk, by simpa using h⟩
    · exact .inr ⟨v, List.mem_cons_of_mem _ hv, k, hk, h⟩
theorem nodes_mem (ws : List Str) (x : Str) : x ∈ nodes ws ↔ x = [] ∨ ∃ w ∈ ws, ∃ k, k ≤ w.length ∧ x = w.take k := by
  constructor
  · intro h
    rcases nodesFrom_mem ws [[]] x h with h | h
    · exact .inl (by simpa using h)
    · exact .inr h
  · rintro (rfl | ⟨w, hw, k, hk, rfl⟩)
    · exact (nodes_good ws).1.empty
    · refine (nodes_good ws).1.pre (w.drop k) _ ?_
      rw [List.take_append_drop]
      exact (nodes_good ws).2 w hw
/-- A row of beginnings put together by length. -/
theorem addW_len : ∀ (r : Str) (P : List Str) (pre : Str), (addW P pre r).length ≤ P.length + r.length := by
  intro r
  induction r with
  | nil => intro P pre; simp [addW]
  | cons c r ih =>
    intro P pre
    unfold addW
    by_cases hm : pre ++ [c] ∈ P
    · rw [if_pos hm]; have := ih P (pre ++ [c]); simp; omega
    · rw [if_neg hm]; have := ih (P ++ [pre ++ [c]]) (pre ++ [c]); simp at this ⊢; omega
end Go.Proofs.Ytgdipibmaaehcaa.Tr
