/- Plain lists: the least number of steps between two lists of numbers, and its laws. -/
import Derived.RowKit
namespace Go.Proofs.Ytkogfbgeepgjgaa.V

/-- How far two lists lie apart, looked at from their heads. -/
def L : List Int → List Int → Nat
  | [], y => y.length
  | c :: x, [] => x.length + 1
  | c :: x, d :: y => min (L x y + if c = d then 0 else 1) (min (L x (d :: y) + 1) (L (c :: x) y + 1))
termination_by x y => x.length + y.length

theorem L_nil_left (y : List Int) : L [] y = y.length := by unfold L; rfl
theorem L_nil_right (x : List Int) : L x [] = x.length := by cases x <;> (unfold L; rfl)
theorem L_cons (c d : Int) (x y : List Int) : L (c :: x) (d :: y) = min (L x y + if c = d then 0 else 1) (min (L x (d :: y) + 1) (L (c :: x) y + 1)) := by
  conv => lhs; unfold L

/-- n steps make y of x. -/
inductive Ed : List Int → List Int → Nat → Prop
  | nil : Ed [] [] 0
  | keep (c : Int) {x y : List Int} {n : Nat} : Ed x y n → Ed (c :: x) (c :: y) n
  | sub (c d : Int) {x y : List Int} {n : Nat} : Ed x y n → Ed (c :: x) (d :: y) (n + 1)
  | ins (d : Int) {x y : List Int} {n : Nat} : Ed x y n → Ed x (d :: y) (n + 1)
  | del (c : Int) {x y : List Int} {n : Nat} : Ed x y n → Ed (c :: x) y (n + 1)

theorem ed_ins_all : ∀ y : List Int, Ed [] y y.length
  | [] => Ed.nil
  | d :: y => Ed.ins d (ed_ins_all y)
theorem ed_del_all : ∀ x : List Int, Ed x [] x.length
  | [] => Ed.nil
  | c :: x => Ed.del c (ed_del_all x)
theorem ed_L (x y : List Int) : Ed x y (L x y) := by
  induction x generalizing y with
  | nil => rw [L_nil_left]; exact ed_ins_all y
  | cons c x ihx =>
    induction y with
    | nil => rw [L_nil_right]; exact ed_del_all _
    | cons d y ihy =>
      rw [L_cons]
      rcases Nat.le_total (L x y + if c = d then 0 else 1) (min (L x (d :: y) + 1) (L (c :: x) y + 1)) with h | h
      · rw [Nat.min_eq_left h]
        by_cases e : c = d
        · subst e; rw [if_pos rfl]; exact Ed.keep c (ihx y)
        · rw [if_neg e]; exact Ed.sub c d (ihx y)
      · rw [Nat.min_eq_right h]
        rcases Nat.le_total (L x (d :: y) + 1) (L (c :: x) y + 1) with h | h
        · rw [Nat.min_eq_left h]; exact Ed.del c (ihx _)
        · rw [Nat.min_eq_right h]; exact Ed.ins d ihy
theorem L_cons_right_le (d : Int) (x y : List Int) : L x (d :: y) ≤ L x y + 1 := by
  cases x with
  | nil => rw [L_nil_left, L_nil_left]; simp
  | cons c x => rw [L_cons]; omega
theorem L_cons_left_le (c : Int) (x y : List Int) : L (c :: x) y ≤ L x y + 1 := by
  cases y with
  | nil => rw [L_nil_right, L_nil_right]; simp
  | cons d y => rw [L_cons]; omega
theorem L_keep_le (c : Int) (x y : List Int) : L (c :: x) (c :: y) ≤ L x y := by rw [L_cons, if_pos rfl]; omega
theorem L_sub_le (c d : Int) (x y : List Int) : L (c :: x) (d :: y) ≤ L x y + 1 := by rw [L_cons]; split <;> omega
theorem L_le_of_ed {x y : List Int} {n : Nat} (h : Ed x y n) : L x y ≤ n := by
  induction h with
  | nil => rw [L_nil_left]; simp
  | keep c h ih => exact Nat.le_trans (L_keep_le c _ _) ih
  | sub c d h ih => exact Nat.le_trans (L_sub_le c d _ _) (by omega)
  | ins d h ih => exact Nat.le_trans (L_cons_right_le d _ _) (by omega)
  | del c h ih => exact Nat.le_trans (L_cons_left_le c _ _) (by omega)
theorem Ed.symm {x y : List Int} {n : Nat} (h : Ed x y n) : Ed y x n := by
  induction h with
  | nil => exact Ed.nil
  | keep c h ih => exact Ed.keep c ih
  | sub c d h ih => exact Ed.sub d c ih
  | ins d h ih => exact Ed.del d ih
  | del c h ih => exact Ed.ins c ih
theorem L_symm (x y : List Int) : L x y = L y x := Nat.le_antisymm (L_le_of_ed (ed_L y x).symm) (L_le_of_ed (ed_L x y).symm)
theorem ed_nil_left {y z : List Int} {n : Nat} (h : Ed y z n) : ∃ k, k ≤ y.length + n ∧ Ed [] z k := by
  refine ⟨z.length, ?_, ed_ins_all z⟩
  induction h with
  | nil => simp
  | _ => simp at *; omega
theorem Ed.trans {x y : List Int} {m : Nat} (h : Ed x y m) : ∀ {z : List Int} {n : Nat}, Ed y z n → ∃ k, k ≤ m + n ∧ Ed x z k := by
  induction h with
  | nil => intro z n h2; exact ⟨n, by omega, h2⟩
  | @keep c x y m h ih =>
    intro z n h2
    generalize hy : c :: y = y' at h2
    induction h2 with
    | nil => cases hy
    | keep d h2 _ => cases hy; obtain ⟨k, hk, e⟩ := ih h2; exact ⟨k, hk, Ed.keep _ e⟩
    | sub d f h2 _ => cases hy; obtain ⟨k, hk, e⟩ := ih h2; exact ⟨k + 1, by omega, Ed.sub _ _ e⟩
    | ins f h2 ih2 => obtain ⟨k, hk, e⟩ := ih2 hy; exact ⟨k + 1, by omega, Ed.ins _ e⟩
    | del d h2 _ => cases hy; obtain ⟨k, hk, e⟩ := ih h2; exact ⟨k + 1, by omega, Ed.del _ e⟩
  | @sub b c x y m h ih =>
    intro z n h2
    generalize hy : c :: y = y' at h2
    induction h2 with
    | nil => cases hy
    | keep d h2 _ => cases hy; obtain ⟨k, hk, e⟩ := ih h2; exact ⟨k + 1, by omega, Ed.sub _ _ e⟩
    | sub d f h2 _ => cases hy; obtain ⟨k, hk, e⟩ := ih h2; exact ⟨k + 1, by omega, Ed.sub _ _ e⟩
    | ins f h2 ih2 => obtain ⟨k, hk, e⟩ := ih2 hy; exact ⟨k + 1, by omega, Ed.ins _ e⟩
    | del d h2 _ => cases hy; obtain ⟨k, hk, e⟩ := ih h2; exact ⟨k + 1, by omega, Ed.del _ e⟩
  | @ins c x y m h ih =>
    intro z n h2
    generalize hy : c :: y = y' at h2
    induction h2 with
    | nil => cases hy
    | keep d h2 _ => cases hy; obtain ⟨k, hk, e⟩ := ih h2; exact ⟨k + 1, by omega, Ed.ins _ e⟩
    | sub d f h2 _ => cases hy; obtain ⟨k, hk, e⟩ := ih h2; exact ⟨k + 1, by omega, Ed.ins _ e⟩
    | ins f h2 ih2 => obtain ⟨k, hk, e⟩ := ih2 hy; exact ⟨k + 1, by omega, Ed.ins _ e⟩
    | del d h2 _ => cases hy; obtain ⟨k, hk, e⟩ := ih h2; exact ⟨k, by omega, e⟩
  | @del c x y m h ih =>
    intro z n h2
    obtain ⟨k, hk, e⟩ := ih h2
    exact ⟨k + 1, by omega, Ed.del _ e⟩
theorem L_triangle (x y z : List Int) : L x z ≤ L x y + L y z := by
  obtain ⟨k, hk, e⟩ := (ed_L x y).trans (ed_L y z)
  exact Nat.le_trans (L_le_of_ed e) hk
theorem ed_zero {x y : List Int} {n : Nat} (h : Ed x y n) (h0 : n = 0) : x = y := by
  induction h with
  | nil => rfl
  | keep c h ih => rw [ih h0]
  | _ => cases h0
theorem ed_self : ∀ x : List Int, Ed x x 0
  | [] => Ed.nil
  | c :: x => Ed.keep c (ed_self x)
theorem L_zero (x y : List Int) : L x y = 0 ↔ x = y := by
  constructor
  · intro h; exact ed_zero (ed_L x y) h
  · rintro rfl; have := L_le_of_ed (ed_self x); omega
theorem ed_lengths {x y : List Int} {n : Nat} (h : Ed x y n) : x.length ≤ y.length + n ∧ y.length ≤ x.length + n := by
  induction h <;> simp at * <;> omega
theorem L_low (x y : List Int) : x.length ≤ y.length + L x y ∧ y.length ≤ x.length + L x y := ed_lengths (ed_L x y)
theorem L_high : ∀ x y : List Int, L x y ≤ max x.length y.length
  | [], y => by rw [L_nil_left]; simp
  | c :: x, [] => by rw [L_nil_right]; simp
  | c :: x, d :: y => by have h := L_high x y; have := L_sub_le c d x y; simp; omega
/-- Ends. -/
theorem ed_snoc_keep {x y : List Int} {n : Nat} (h : Ed x y n) (c : Int) : Ed (x ++ [c]) (y ++ [c]) n := by
  induction h with
  | nil => exact Ed.keep c Ed.nil
  | keep d h ih => exact Ed.keep d ih
  | sub d e h ih => exact Ed.sub d e ih
  | ins d h ih => exact Ed.ins d ih
  | del d h ih => exact Ed.del d ih
theorem ed_snoc_sub {x y : List Int} {n : Nat} (h : Ed x y n) (c d : Int) : Ed (x ++ [c]) (y ++ [d]) (n + 1) := by
  induction h with
  | nil => exact Ed.sub c d Ed.nil
  | keep d h ih => exact Ed.keep d ih
  | sub d e h ih => exact Ed.sub d e ih
  | ins d h ih => exact Ed.ins d ih
  | del d h ih => exact Ed.del d ih
theorem ed_snoc_ins {x y : List Int} {n : Nat} (h : Ed x y n) (d : Int) : Ed x (y ++ [d]) (n + 1) := by
  induction h with
  | nil => exact Ed.ins d Ed.nil
  | keep d h ih => exact Ed.keep d ih
  | sub d e h ih => exact Ed.sub d e ih
  | ins d h ih => exact Ed.ins d ih
  | del d h ih => exact Ed.del d ih
theorem ed_rev {x y : List Int} {n : Nat} (h : Ed x y n) : Ed x.reverse y.reverse n := by
  induction h with
  | nil => exact Ed.nil
  | keep c h ih => simp only [List.reverse_cons]; exact ed_snoc_keep ih c
  | sub c d h ih => simp only [List.reverse_cons]; exact ed_snoc_sub ih c d
  | ins d h ih => simp only [List.reverse_cons]; exact ed_snoc_ins ih d
  | del c h ih => simp only [List.reverse_cons]; exact (ed_snoc_ins ih.symm c).symm
theorem L_rev (x y : List Int) : L x.reverse y.reverse = L x y := by
  refine Nat.le_antisymm (L_le_of_ed (ed_rev (ed_L x y))) ?_
  have := L_le_of_ed (ed_rev (ed_L x.reverse y.reverse))
  rwa [List.reverse_reverse, List.reverse_reverse] at this
theorem L_cons_same (c : Int) (x y : List Int) : L (c :: x) (c :: y) = L x y := by
  refine Nat.le_antisymm (L_keep_le c x y) ?_
  rw [L_cons, if_pos rfl]
  have h1 := L_triangle x (c :: y) y
  have h2 : L (c :: y) y ≤ 1 := by have := L_cons_left_le c y y; rw [(L_zero y y).2 rfl] at this; exact this
  have h3 := L_triangle x (c :: x) y
  have h4 : L x (c :: x) ≤ 1 := by have := L_cons_right_le c x x; rw [(L_zero x x).2 rfl] at this; exact this
  omega
theorem L_append_same (z x y : List Int) : L (z ++ x) (z ++ y) = L x y := by
  induction z with
  | nil => rfl
  | cons c z ih => rw [List.cons_append, List.cons_append, L_cons_same, ih]
theorem L_same_append (z x y : List Int) : L (x ++ z) (y ++ z) = L x y := by
  rw [← L_rev, List.reverse_append, List.reverse_append, L_append_same, L_rev]
end Go.Proofs.Ytkogfbgeepgjgaa.V
